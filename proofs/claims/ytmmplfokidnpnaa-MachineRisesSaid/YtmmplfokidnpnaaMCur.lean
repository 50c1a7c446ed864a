/- The walks of Currents, and of the reference's Normal and Currents. -/
import Derived.Test.YtmmplfokidnpnaaMStart
namespace Go.Proofs.Ytmmplfokidnpnaa
open Go.RowKit
theorem quiet_add_left {P : Program} {f : FuncId} {args : Array Value} {w : World} {a n : Nat} {v : Value}
    (h : Calls P f args (w.drewN (a + n)) fun e w' => e = .returned v ∧ w.drewN (a + n) = w') :
    Calls P f args (w.drewN (a + n)) fun e w'' => e = .returned v ∧ ∃ m, w'' = w.drewN (a + m) :=
  h.mono fun _ _ ⟨he, hm⟩ => ⟨he, n, hm.symm⟩
/-- The currents of a flux. -/
def curD (C : Cf) (d : Int) : Int := cvAt C.dx C.dy (devD C d)
def curQ (C : Cf) (q : Int) : Int := cvAt C.qx C.qy (devQ C q)
theorem cur_bd {X Y : List Int} (h : McOk X Y) (x : Int) : -1048576 ≤ cvAt X Y x ∧ cvAt X Y x ≤ 1048576 := by
  have h2 := h.ok.two
  have b0 := h.bd 0 (by omega)
  have bl := h.bd (X.length - 1) (by omega)
  have ba := at_bd h.ok x
  omega
theorem devD_idem {C : Cf} (ok : CfOk C) (d : Int) : devD C (C.m + devD C d) = devD C d := by
  have h1 : -268435456 ≤ devD C d ∧ devD C d ≤ 268435456 := inX_bd ok.d _
  have h2 := inX_in ok.d (clipI d (-1073741824) 1073741824 - C.m)
  have hm := ok.m
  show inX C.dx (clipI (C.m + devD C d) (-1073741824) 1073741824 - C.m) = _
  have h3 : clipI (C.m + devD C d) (-1073741824) 1073741824 = C.m + devD C d := by
    unfold clipI
    rw [if_neg (by omega), if_neg (by omega)]
  rw [h3, show C.m + devD C d - C.m = devD C d by omega]
  exact inX_same h2.1 h2.2
theorem devQ_idem {C : Cf} (ok : CfOk C) (q : Int) : devQ C (devQ C q) = devQ C q := by
  have h1 : -268435456 ≤ devQ C q ∧ devQ C q ≤ 268435456 := inX_bd ok.q _
  have h2 := inX_in ok.q (clipI q (-1073741824) 1073741824)
  show inX C.qx (clipI (devQ C q) (-1073741824) 1073741824) = _
  have h3 : clipI (devQ C q) (-1073741824) 1073741824 = devQ C q := by
    unfold clipI
    rw [if_neg (by omega), if_neg (by omega)]
  rw [h3]
  exact inX_same h2.1 h2.2
theorem devD_bd {C : Cf} (ok : CfOk C) (d : Int) : -268435456 ≤ devD C d ∧ devD C d ≤ 268435456 := inX_bd ok.d _
theorem devQ_bd {C : Cf} (ok : CfOk C) (q : Int) : -268435456 ≤ devQ C q ∧ devQ C q ≤ 268435456 := inX_bd ok.q _
theorem curD_bd {C : Cf} (ok : CfOk C) (d : Int) : -1048576 ≤ curD C d ∧ curD C d ≤ 1048576 := cur_bd ok.d _
theorem curQ_bd {C : Cf} (ok : CfOk C) (q : Int) : -1048576 ≤ curQ C q ∧ curQ C q ≤ 1048576 := cur_bd ok.q _
set_option maxRecDepth 100000 in
set_option maxHeartbeats 1600000 in
theorem currentsM_bad (C : Cf) (A1 A2 A3 A4 : Option Addr) (n1 n2 n3 n4 c1 c2 c3 c4 : Nat) (fd fq : Int) (w : World) (L : Ly w w.heap.size C A1 A2 A3 A4 n1 n2 n3 n4) (hc : cfCode C ≠ 0) :
    Calls Try.prog 18 #[.agg #[.int .i64 C.r, .int .i64 C.m, .slice A1 n1 c1, .slice A2 n2 c2, .slice A3 n3 c3, .slice A4 n4 c4, .int .i64 C.p, .int .i64 C.s, .int .i64 C.f], .agg #[.int .i64 fd, .int .i64 fq]] w fun e w' => e = .returned (.tuple #[.agg #[.int .i64 0, .int .i64 0], errV (cfCode C)]) ∧ Below w.heap.size w w' := by
  have hb0 := (((Below.refl w.heap.size w).alloc (Nat.le_refl _) (.cells #[.int .i64 C.r, .int .i64 C.m, .slice A1 n1 c1, .slice A2 n2 c2, .slice A3 n3 c3, .slice A4 n4 c4, .int .i64 C.p, .int .i64 C.s, .int .i64 C.f] 26)).alloc (by simp) (.cells #[.int .i64 fd, .int .i64 fq] 33)).alloc (by simp <;> omega) (.cells #[.int .i64 0, .int .i64 0] 31)
  have gz := Blk.new' (w := (w.alloc (.cells #[.int .i64 C.r, .int .i64 C.m, .slice A1 n1 c1, .slice A2 n2 c2, .slice A3 n3 c3, .slice A4 n4 c4, .int .i64 C.p, .int .i64 C.s, .int .i64 C.f] 26)).alloc (.cells #[.int .i64 fd, .int .i64 fq] 33)) (t := 31) (cs := #[.int .i64 0, .int .i64 0]) (g := w.heap.size + 1 + 1) (by simp)
  have L0 := ((L.new (.cells #[.int .i64 C.r, .int .i64 C.m, .slice A1 n1 c1, .slice A2 n2 c2, .slice A3 n3 c3, .slice A4 n4 c4, .int .i64 C.p, .int .i64 C.s, .int .i64 C.f] 26)).new (.cells #[.int .i64 fd, .int .i64 fq] 33)).new (.cells #[.int .i64 0, .int .i64 0] 31)
  have hck := fun (W : World) (h : Ly W W.heap.size C A1 A2 A3 A4 n1 n2 n3 n4) => chkM C A1 A2 A3 A4 n1 n2 n3 n4 c1 c2 c3 c4 W h
  obtain ⟨cd, hcd⟩ : ∃ x, cfCode C = x := ⟨_, rfl⟩
  rw [hcd] at hc ⊢
  simp only [hcd, errV_ne hc] at hck
  rw [errV_ne hc]
  have HCK := hide hck
  clear hck hcd
  go_enter Try.func18, Try.ntmps18
  go_wp2_with fail
  refine ((unhide HCK) _ L0).mono ?_
  rintro e w1 ⟨rfl, hb1⟩
  have gz1 := gz.below hb1 gz.lt
  have lz1 := gz1.lt
  have HB1 := hb0.trans (hb1.mono hb0.size)
  obtain ⟨z0, z1⟩ := gz1.c2
  have f0 := gz1.frozen 0
  have f1 := gz1.frozen 1
  go_wp2
  refine bodyPost_ret (ret_cell_tmp rfl rfl (load_dq ((gz1.set_ 0 _).set_ 1 _))) rfl ⟨rfl, ?_⟩
  exact (HB1.setCell (by simp; try omega) _).setCell (by simp; try omega) _
set_option maxRecDepth 100000 in
set_option maxHeartbeats 1600000 in
theorem currentsM (C : Cf) (a1 a2 a3 a4 : Addr) (n k c1 c2 c3 c4 : Nat) (fd fq : Int) (w : World) (L : Ly w w.heap.size C (some a1) (some a2) (some a3) (some a4) n n k k) (hc : cfCode C = 0) :
    Calls Try.prog 18 #[.agg #[.int .i64 C.r, .int .i64 C.m, .slice (some a1) n c1, .slice (some a2) n c2, .slice (some a3) k c3, .slice (some a4) k c4, .int .i64 C.p, .int .i64 C.s, .int .i64 C.f], .agg #[.int .i64 fd, .int .i64 fq]] w fun e w' => e = .returned (.tuple #[.agg #[.int .i64 (curD C fd), .int .i64 (curQ C fq)], .nilIface]) ∧ Below w.heap.size w w' := by
  have ok := cf_ok hc
  have hb0 := (((Below.refl w.heap.size w).alloc (Nat.le_refl _) (.cells #[.int .i64 C.r, .int .i64 C.m, .slice (some a1) n c1, .slice (some a2) n c2, .slice (some a3) k c3, .slice (some a4) k c4, .int .i64 C.p, .int .i64 C.s, .int .i64 C.f] 26)).alloc (by simp) (.cells #[.int .i64 fd, .int .i64 fq] 33)).alloc (by simp <;> omega) (.cells #[.int .i64 0, .int .i64 0] 31)
  have g0 := ((Blk.new w 26 #[.int .i64 C.r, .int .i64 C.m, .slice (some a1) n c1, .slice (some a2) n c2, .slice (some a3) k c3, .slice (some a4) k c4, .int .i64 C.p, .int .i64 C.s, .int .i64 C.f]).alloc (.cells #[.int .i64 fd, .int .i64 fq] 33)).alloc (.cells #[.int .i64 0, .int .i64 0] 31)
  have g1 := (Blk.new' (w := w.alloc (.cells #[.int .i64 C.r, .int .i64 C.m, .slice (some a1) n c1, .slice (some a2) n c2, .slice (some a3) k c3, .slice (some a4) k c4, .int .i64 C.p, .int .i64 C.s, .int .i64 C.f] 26)) (t := 33) (cs := #[.int .i64 fd, .int .i64 fq]) (g := w.heap.size + 1) (by simp)).alloc (.cells #[.int .i64 0, .int .i64 0] 31)
  have gz := Blk.new' (w := (w.alloc (.cells #[.int .i64 C.r, .int .i64 C.m, .slice (some a1) n c1, .slice (some a2) n c2, .slice (some a3) k c3, .slice (some a4) k c4, .int .i64 C.p, .int .i64 C.s, .int .i64 C.f] 26)).alloc (.cells #[.int .i64 fd, .int .i64 fq] 33)) (t := 31) (cs := #[.int .i64 0, .int .i64 0]) (g := w.heap.size + 1 + 1) (by simp)
  have L0 := ((L.new (.cells #[.int .i64 C.r, .int .i64 C.m, .slice (some a1) n c1, .slice (some a2) n c2, .slice (some a3) k c3, .slice (some a4) k c4, .int .i64 C.p, .int .i64 C.s, .int .i64 C.f] 26)).new (.cells #[.int .i64 fd, .int .i64 fq] 33)).new (.cells #[.int .i64 0, .int .i64 0] 31)
  have hck := fun (W : World) (h : Ly W W.heap.size C (some a1) (some a2) (some a3) (some a4) n n k k) => chkM C (some a1) (some a2) (some a3) (some a4) n n k k c1 c2 c3 c4 W h
  simp only [hc, errV_zero] at hck
  have hof := fun (W : World) (h : Ly W W.heap.size C (some a1) (some a2) (some a3) (some a4) n n k k) => offM C a1 a2 a3 a4 n k c1 c2 c3 c4 fd fq W h ok
  have hd := devD_bd ok fd
  have hq := devQ_bd ok fq
  have hat1 := fun (W : World) (h : Ly W W.heap.size C (some a1) (some a2) (some a3) (some a4) n n k k) => AtM C.dx C.dy a1 a2 n c1 c2 (devD C fd) (by omega) W h.s1 h.s2 h.e1 ok.d.ok ok.d.cv
  have hat2 := fun (W : World) (h : Ly W W.heap.size C (some a1) (some a2) (some a3) (some a4) n n k k) => AtM C.qx C.qy a3 a4 k c3 c4 (devQ C fq) (by omega) W h.s3 h.s4 h.e3 ok.q.ok ok.q.cv
  have HCK := hide hck
  have HOF := hide hof
  have HA1 := hide hat1
  have HA2 := hide hat2
  clear hck hof hat1 hat2 hd hq ok hc
  go_enter Try.func18, Try.ntmps18
  go_wp2_with fail
  refine ((unhide HCK) _ L0).mono ?_
  rintro e w1 ⟨rfl, hb1⟩
  have gz1 := gz.below hb1 gz.lt
  have g01 := g0.below hb1 g0.lt
  have g11 := g1.below hb1 g1.lt
  have lz1 := gz1.lt
  have l11 := g11.lt
  have l01 := g01.lt
  have HB1 := hb0.trans (hb1.mono hb0.size)
  have L1 := L0.to hb1
  obtain ⟨y0, y1, y2, y3, y4, y5, y6, y7, y8⟩ := g01.c9
  obtain ⟨z0, z1⟩ := g11.c2
  go_wp2_with fail
  refine ((unhide HOF) _ L1).mono ?_
  rintro e w2 ⟨rfl, hb2⟩
  have gz2 := gz1.below hb2 gz1.lt
  have g02 := g01.below hb2 g01.lt
  have lz2 := gz2.lt
  have l02 := g02.lt
  have HB2 := HB1.trans (hb2.mono HB1.size)
  have L2 := L1.to hb2
  clear y0 y1 y2 y3 y4 y5 y6 y7 y8 z0 z1
  obtain ⟨y0, y1, y2, y3, y4, y5, y6, y7, y8⟩ := g02.c9
  go_wp2_with fail
  refine ((unhide HA1) _ L2).mono ?_
  rintro e w3 ⟨rfl, hb3⟩
  have gz3 := gz2.below hb3 gz2.lt
  have g03 := g02.below hb3 g02.lt
  have lz3 := gz3.lt
  have l03 := g03.lt
  have HB3 := HB2.trans (hb3.mono HB2.size)
  have L3 := L2.to hb3
  clear y0 y1 y2 y3 y4 y5 y6 y7 y8
  obtain ⟨y0, y1, y2, y3, y4, y5, y6, y7, y8⟩ := g03.c9
  go_wp2_with fail
  refine ((unhide HA2) _ L3).mono ?_
  rintro e w4 ⟨rfl, hb4⟩
  have gz4 := gz3.below hb4 gz3.lt
  have lz4 := gz4.lt
  have HB4 := HB3.trans (hb4.mono HB3.size)
  obtain ⟨z0, z1⟩ := gz4.c2
  have f0 := gz4.frozen 0
  have f1 := gz4.frozen 1
  go_wp2
  refine bodyPost_ret (ret_cell_tmp rfl rfl (load_dq ((gz4.set_ 0 _).set_ 1 _))) rfl ⟨rfl, ?_⟩
  exact (HB4.setCell (by simp; try omega) _).setCell (by simp; try omega) _
set_option maxRecDepth 100000 in
set_option maxHeartbeats 1600000 in
theorem normalR (C : Cf) (a1 a2 a3 a4 : Addr) (n k c1 c2 c3 c4 : Nat) (fd fq : Int) (w : World) (L : Ly w w.heap.size C (some a1) (some a2) (some a3) (some a4) n n k k) (ok : CfOk C) :
    Calls Try.prog 46 #[.agg #[.int .i64 C.r, .int .i64 C.m, .slice (some a1) n c1, .slice (some a2) n c2, .slice (some a3) k c3, .slice (some a4) k c4, .int .i64 C.p, .int .i64 C.s, .int .i64 C.f], .agg #[.int .i64 fd, .int .i64 fq]] w fun e w' => e = .returned (.agg #[.int .i64 (C.m + devD C fd), .int .i64 (devQ C fq)]) ∧ Below w.heap.size w w' := by
  have hb0 := (((Below.refl w.heap.size w).alloc (Nat.le_refl _) (.cells #[.int .i64 C.r, .int .i64 C.m, .slice (some a1) n c1, .slice (some a2) n c2, .slice (some a3) k c3, .slice (some a4) k c4, .int .i64 C.p, .int .i64 C.s, .int .i64 C.f] 26)).alloc (by simp) (.cells #[.int .i64 fd, .int .i64 fq] 33)).alloc (by simp <;> omega) (.cells #[.int .i64 0, .int .i64 0] 33)
  have g0 := ((Blk.new w 26 #[.int .i64 C.r, .int .i64 C.m, .slice (some a1) n c1, .slice (some a2) n c2, .slice (some a3) k c3, .slice (some a4) k c4, .int .i64 C.p, .int .i64 C.s, .int .i64 C.f]).alloc (.cells #[.int .i64 fd, .int .i64 fq] 33)).alloc (.cells #[.int .i64 0, .int .i64 0] 33)
  have g1 := (Blk.new' (w := w.alloc (.cells #[.int .i64 C.r, .int .i64 C.m, .slice (some a1) n c1, .slice (some a2) n c2, .slice (some a3) k c3, .slice (some a4) k c4, .int .i64 C.p, .int .i64 C.s, .int .i64 C.f] 26)) (t := 33) (cs := #[.int .i64 fd, .int .i64 fq]) (g := w.heap.size + 1) (by simp)).alloc (.cells #[.int .i64 0, .int .i64 0] 33)
  have gz := Blk.new' (w := (w.alloc (.cells #[.int .i64 C.r, .int .i64 C.m, .slice (some a1) n c1, .slice (some a2) n c2, .slice (some a3) k c3, .slice (some a4) k c4, .int .i64 C.p, .int .i64 C.s, .int .i64 C.f] 26)).alloc (.cells #[.int .i64 fd, .int .i64 fq] 33)) (t := 33) (cs := #[.int .i64 0, .int .i64 0]) (g := w.heap.size + 1 + 1) (by simp)
  have L0 := ((L.new (.cells #[.int .i64 C.r, .int .i64 C.m, .slice (some a1) n c1, .slice (some a2) n c2, .slice (some a3) k c3, .slice (some a4) k c4, .int .i64 C.p, .int .i64 C.s, .int .i64 C.f] 26)).new (.cells #[.int .i64 fd, .int .i64 fq] 33)).new (.cells #[.int .i64 0, .int .i64 0] 33)
  have hd1 := devD_bd ok fd
  have hc1 := clipI_in fd (-1073741824) 1073741824 (by omega)
  have hm := ok.m
  have t1 := ok.d.ok.two
  have t2 := ok.q.ok.two
  have u1 := ok.d.ok.most
  have u2 := ok.q.ok.most
  have o1 := mc_ends ok.d
  have o2 := mc_ends ok.q
  have eN := L.e1
  have eK := L.e3
  have v1 : devD C fd = clipI (clipI fd (-1073741824) 1073741824 - C.m) (g C.dx 0) (g C.dx (n - 1)) := by rw [eN]; rfl
  have v2 : devQ C fq = clipI (clipI fq (-1073741824) 1073741824) (g C.qx 0) (g C.qx (k - 1)) := by rw [eK]; rfl
  rw [← eN] at o1
  rw [← eK] at o2
  obtain ⟨pf, pfa, pfb, x0⟩ := L0.s1.at1' (k := 0) (by omega)
  obtain ⟨pl, pla, plb, xl⟩ := L0.s1.at1' (k := n - 1) (by omega)
  obtain ⟨rf, rfa, rfb, w0⟩ := L0.s3.at1' (k := 0) (by omega)
  obtain ⟨rl, rla, rlb, wl⟩ := L0.s3.at1' (k := k - 1) (by omega)
  have n2 : 2 ≤ n := by omega
  have k2 : 2 ≤ k := by omega
  have n32 : n ≤ 32 := by omega
  have k32 : k ≤ 32 := by omega
  rw [v1] at hd1 ⊢
  rw [v2]
  obtain ⟨gx0, hx0⟩ : ∃ x, g C.dx 0 = x := ⟨_, rfl⟩
  obtain ⟨gxl, hxl⟩ : ∃ x, g C.dx (n - 1) = x := ⟨_, rfl⟩
  obtain ⟨gw0, hw0⟩ : ∃ x, g C.qx 0 = x := ⟨_, rfl⟩
  obtain ⟨gwl, hwl⟩ : ∃ x, g C.qx (k - 1) = x := ⟨_, rfl⟩
  rw [hx0] at x0 o1 hd1 ⊢
  rw [hxl] at xl o1 hd1 ⊢
  rw [hw0] at w0 o2 ⊢
  rw [hwl] at wl o2 ⊢
  have q1 := fun W => clipR fd (-1073741824) 1073741824 (by omega) W
  have q2 := fun W => clipR fq (-1073741824) 1073741824 (by omega) W
  obtain ⟨kd, hkd⟩ : ∃ x, clipI fd (-1073741824) 1073741824 = x := ⟨_, rfl⟩
  obtain ⟨kq, hkq⟩ : ∃ x, clipI fq (-1073741824) 1073741824 = x := ⟨_, rfl⟩
  simp only [hkd] at q1 hc1 hd1 ⊢
  simp only [hkq] at q2 ⊢
  have q3 := fun W => clipR (kd - C.m) gx0 gxl (by omega) W
  have q4 := fun W => clipR kq gw0 gwl (by omega) W
  obtain ⟨D, hD⟩ : ∃ x, clipI (kd - C.m) gx0 gxl = x := ⟨_, rfl⟩
  obtain ⟨Q, hQ⟩ : ∃ x, clipI kq gw0 gwl = x := ⟨_, rfl⟩
  simp only [hD] at q3 hd1 ⊢
  simp only [hQ] at q4 ⊢
  have il : ((n : Int) - 1).toNat = n - 1 := by omega
  have hi1 : (0 : Int) < (n : Int) := by omega
  have hi2 : (0 : Int) ≤ (n : Int) - 1 := by omega
  have hi3 : (n : Int) - 1 < (n : Int) := by omega
  have hi4 : IntKind.i64.wrap ((n : Int) - 1) = (n : Int) - 1 := IntWalk.i64_in _ (by omega)
  have jl : ((k : Int) - 1).toNat = k - 1 := by omega
  have hj1 : (0 : Int) < (k : Int) := by omega
  have hj2 : (0 : Int) ≤ (k : Int) - 1 := by omega
  have hj3 : (k : Int) - 1 < (k : Int) := by omega
  have hj4 : IntKind.i64.wrap ((k : Int) - 1) = (k : Int) - 1 := IntWalk.i64_in _ (by omega)
  have hs : IntKind.i64.wrap (kd - C.m) = kd - C.m := IntWalk.i64_in _ (by omega)
  have hs2 : IntKind.i64.wrap (C.m + D) = C.m + D := IntWalk.i64_in _ (by omega)
  have hs3 : wrap64 (C.m + D) = C.m + D := by unfold wrap64; omega
  have Q1 := hide q1
  have Q2 := hide q2
  have Q3 := hide q3
  have Q4 := hide q4
  clear q1 q2 q3 q4 hkd hkq hD hQ hx0 hxl hw0 hwl v1 v2 eN eK o1 o2 t1 t2 u1 u2 ok L
  obtain ⟨y0, y1, y2, y3, y4, y5, y6, y7, y8⟩ := g0.c9
  obtain ⟨z0, z1⟩ := g1.c2
  go_enter Try.func46, Try.ntmps46
  go_wp2
  go_quiet ((go_at_call 48; exact quiet_left ((unhide Q1) _)))
  go_wp2_with (first | (go_at_call 48; refine ((unhide Q2) _).mono ?_; rintro e w' ⟨rfl, rfl⟩))
  go_quiet ((go_at_call 48; exact quiet_add_left ((unhide Q3) _)))
  go_wp2
  go_quiet ((go_at_call 48; exact quiet_add_left ((unhide Q4) _)))
  go_wp2
  refine bodyPost_ret (ret_cell rfl rfl (load_ms (((gz.drewN _).set_ 0 _).set_ 1 _))) rfl ⟨rfl, ?_⟩
  exact ((below_drewN hb0 _).setCell (by simp; try omega) _).setCell (by simp; try omega) _
/-- A configuration and a state in memory. -/
structure NS (w0 w : World) (C : Cf) (a1 a2 a3 a4 : Addr) (n k c1 c2 c3 c4 : Nat) (x y : Int) : Prop where
  p : Blk w w0.heap.size 26 #[.int .i64 C.r, .int .i64 C.m, .slice (some a1) n c1, .slice (some a2) n c2, .slice (some a3) k c3, .slice (some a4) k c4, .int .i64 C.p, .int .i64 C.s, .int .i64 C.f]
  q : Blk w (w0.heap.size + 1) 33 #[.int .i64 x, .int .i64 y]
  b : Below w0.heap.size w0 w
  l : Ly w w0.heap.size C (some a1) (some a2) (some a3) (some a4) n n k k
section
variable {w0 w w' : World} {C : Cf} {a1 a2 a3 a4 : Addr} {n k c1 c2 c3 c4 : Nat} {x y : Int}
theorem NS.all (h : NS w0 w C a1 a2 a3 a4 n k c1 c2 c3 c4 x y) : NS w0 w C a1 a2 a3 a4 n k c1 c2 c3 c4 x y ∧ w.cell? ⟨w0.heap.size, 1, none⟩ = some (.int .i64 C.m) ∧ w.cell? ⟨w0.heap.size, 2, none⟩ = some (.slice (some a1) n c1) ∧ w.cell? ⟨w0.heap.size, 3, none⟩ = some (.slice (some a2) n c2) ∧ w.cell? ⟨w0.heap.size, 4, none⟩ = some (.slice (some a3) k c3) ∧ w.cell? ⟨w0.heap.size, 5, none⟩ = some (.slice (some a4) k c4) ∧ w.cell? ⟨w0.heap.size + 1, 0, none⟩ = some (.int .i64 x) ∧ w.cell? ⟨w0.heap.size + 1, 1, none⟩ = some (.int .i64 y) := ⟨h, h.p.cell 1, h.p.cell 2, h.p.cell 3, h.p.cell 4, h.p.cell 5, h.q.cell 0, h.q.cell 1⟩
theorem NS.drew (h : NS w0 w C a1 a2 a3 a4 n k c1 c2 c3 c4 x y) : NS w0 w.drew C a1 a2 a3 a4 n k c1 c2 c3 c4 x y := ⟨h.p.drew, h.q.drew, h.b.drew, h.l.drew⟩
theorem NS.one {Q : Prop} (h : NS w0 w C a1 a2 a3 a4 n k c1 c2 c3 c4 x y ∧ Q) : NS w0 w C a1 a2 a3 a4 n k c1 c2 c3 c4 x y := h.1
theorem NS.below (hb : Below w.heap.size w w') (h : NS w0 w C a1 a2 a3 a4 n k c1 c2 c3 c4 x y) : NS w0 w' C a1 a2 a3 a4 n k c1 c2 c3 c4 x y := ⟨h.p.below hb h.p.lt, h.q.below hb h.q.lt, h.b.trans (hb.mono h.b.size), h.l.below (hb.mono h.b.size)⟩
theorem NS.set (h : NS w0 w C a1 a2 a3 a4 n k c1 c2 c3 c4 x y) {p : Addr} (hp : w0.heap.size + 1 < p.block) (u : Value) : NS w0 (w.setCell p u) C a1 a2 a3 a4 n k c1 c2 c3 c4 x y := ⟨h.p.far (by omega) u, h.q.far (by omega) u, h.b.setCell (by omega) u, h.l.set (by omega) u⟩
theorem NS.ly (h : NS w0 w C a1 a2 a3 a4 n k c1 c2 c3 c4 x y) : Ly w w.heap.size C (some a1) (some a2) (some a3) (some a4) n n k k := h.l.more h.b.size
end
set_option maxRecDepth 100000 in
set_option maxHeartbeats 1600000 in
theorem currentsR (C : Cf) (a1 a2 a3 a4 : Addr) (n k c1 c2 c3 c4 : Nat) (fd fq : Int) (w : World) (L : Ly w w.heap.size C (some a1) (some a2) (some a3) (some a4) n n k k) (ok : CfOk C) :
    Calls Try.prog 21 #[.agg #[.int .i64 C.r, .int .i64 C.m, .slice (some a1) n c1, .slice (some a2) n c2, .slice (some a3) k c3, .slice (some a4) k c4, .int .i64 C.p, .int .i64 C.s, .int .i64 C.f], .agg #[.int .i64 fd, .int .i64 fq]] w fun e w' => e = .returned (.agg #[.int .i64 (curD C fd), .int .i64 (curQ C fq)]) ∧ Below w.heap.size w w' := by
  have hb0 := (((Below.refl w.heap.size w).alloc (Nat.le_refl _) (.cells #[.int .i64 C.r, .int .i64 C.m, .slice (some a1) n c1, .slice (some a2) n c2, .slice (some a3) k c3, .slice (some a4) k c4, .int .i64 C.p, .int .i64 C.s, .int .i64 C.f] 26)).alloc (by simp) (.cells #[.int .i64 fd, .int .i64 fq] 33)).alloc (by simp <;> omega) (.cells #[.int .i64 0, .int .i64 0] 31)
  have g0 := ((Blk.new w 26 #[.int .i64 C.r, .int .i64 C.m, .slice (some a1) n c1, .slice (some a2) n c2, .slice (some a3) k c3, .slice (some a4) k c4, .int .i64 C.p, .int .i64 C.s, .int .i64 C.f]).alloc (.cells #[.int .i64 fd, .int .i64 fq] 33)).alloc (.cells #[.int .i64 0, .int .i64 0] 31)
  have g1 := (Blk.new' (w := w.alloc (.cells #[.int .i64 C.r, .int .i64 C.m, .slice (some a1) n c1, .slice (some a2) n c2, .slice (some a3) k c3, .slice (some a4) k c4, .int .i64 C.p, .int .i64 C.s, .int .i64 C.f] 26)) (t := 33) (cs := #[.int .i64 fd, .int .i64 fq]) (g := w.heap.size + 1) (by simp)).alloc (.cells #[.int .i64 0, .int .i64 0] 31)
  have gz := Blk.new' (w := (w.alloc (.cells #[.int .i64 C.r, .int .i64 C.m, .slice (some a1) n c1, .slice (some a2) n c2, .slice (some a3) k c3, .slice (some a4) k c4, .int .i64 C.p, .int .i64 C.s, .int .i64 C.f] 26)).alloc (.cells #[.int .i64 fd, .int .i64 fq] 33)) (t := 31) (cs := #[.int .i64 0, .int .i64 0]) (g := w.heap.size + 1 + 1) (by simp)
  have L0 := ((L.new (.cells #[.int .i64 C.r, .int .i64 C.m, .slice (some a1) n c1, .slice (some a2) n c2, .slice (some a3) k c3, .slice (some a4) k c4, .int .i64 C.p, .int .i64 C.s, .int .i64 C.f] 26)).new (.cells #[.int .i64 fd, .int .i64 fq] 33)).new (.cells #[.int .i64 0, .int .i64 0] 31)
  have hno := fun (W : World) (h : Ly W W.heap.size C (some a1) (some a2) (some a3) (some a4) n n k k) => normalR C a1 a2 a3 a4 n k c1 c2 c3 c4 fd fq W h ok
  have hd := devD_bd ok fd
  have hq := devQ_bd ok fq
  have hm := ok.m
  have v1 : curD C fd = cvAt C.dx C.dy (devD C fd) := rfl
  have v2 : curQ C fq = cvAt C.qx C.qy (devQ C fq) := rfl
  rw [v1, v2]
  obtain ⟨D, hD⟩ : ∃ x, devD C fd = x := ⟨_, rfl⟩
  obtain ⟨Q, hQ⟩ : ∃ x, devQ C fq = x := ⟨_, rfl⟩
  simp only [hD] at hno hd ⊢
  simp only [hQ] at hno hq ⊢
  have hat1 := fun (W : World) (h : Ly W W.heap.size C (some a1) (some a2) (some a3) (some a4) n n k k) => atR C.dx C.dy a1 a2 n c1 c2 D (by omega) W h.s1 h.s2 h.e1 ok.d.ok
  have hat2 := fun (W : World) (h : Ly W W.heap.size C (some a1) (some a2) (some a3) (some a4) n n k k) => atR C.qx C.qy a3 a4 k c3 c4 Q (by omega) W h.s3 h.s4 h.e3 ok.q.ok
  have hs1 : C.m + D - C.m = D := by omega
  have hs2 : IntKind.i64.wrap (C.m + D - C.m) = D := by rw [hs1]; exact IntWalk.i64_in _ (by omega)
  have hs3 : IntKind.i64.wrap D = D := IntWalk.i64_in _ (by omega)
  have HNO := hide hno
  have HA1 := hide hat1
  have HA2 := hide hat2
  clear hno hat1 hat2 hD hQ ok v1 v2
  go_enter Try.func21, Try.ntmps21
  go_wp2_with fail
  refine ((unhide HNO) _ L0).mono ?_
  rintro e w1 ⟨rfl, hb1⟩
  have gz1 := gz.below hb1 gz.lt
  have g01 := g0.below hb1 g0.lt
  have g11 := g1.below hb1 g1.lt
  have lz1 := gz1.lt
  have l11 := g11.lt
  have l01 := g01.lt
  have HB1 := hb0.trans (hb1.mono hb0.size)
  have L1 := L0.to hb1
  obtain ⟨y0, y1, y2, y3, y4, y5, y6, y7, y8⟩ := g01.c9
  obtain ⟨z0, z1⟩ := g11.c2
  have f0 := g11.frozen 0
  have f1 := g11.frozen 1
  go_wp2
  obtain ⟨W, hW⟩ : ∃ W, ((w1.setCell ⟨w.heap.size + 1, 0, none⟩ (.int .i64 (C.m + D))).setCell ⟨w.heap.size + 1, 1, none⟩ (.int .i64 Q)) = W := ⟨_, rfl⟩
  have gW0 : Blk W w.heap.size 26 #[.int .i64 C.r, .int .i64 C.m, .slice (some a1) n c1, .slice (some a2) n c2, .slice (some a3) k c3, .slice (some a4) k c4, .int .i64 C.p, .int .i64 C.s, .int .i64 C.f] := by rw [← hW]; exact (g01.far (by simp) _).far (by simp) _
  have gW1 : Blk W (w.heap.size + 1) 33 #[.int .i64 (C.m + D), .int .i64 Q] := by rw [← hW]; exact (g11.set_ 0 _).set_ 1 _
  have gWz : Blk W (w.heap.size + 1 + 1) 31 #[.int .i64 0, .int .i64 0] := by rw [← hW]; exact (gz1.far (by simp) _).far (by simp) _
  have HW : Below w.heap.size w W := by rw [← hW]; exact (HB1.setCell (by simp) _).setCell (by simp) _
  have lW0 := gW0.lt
  have lW1 := gW1.lt
  have lWz := gWz.lt
  simp only [hW]
  clear hW gz1 g01 g11 g0 g1 gz L1 L0 HB1 hb0 hb1 y0 y1 y2 y3 y4 y5 y6 y7 y8 z0 z1 f0 f1 lz1 l11 l01
  have has : NS w W C a1 a2 a3 a4 n k c1 c2 c3 c4 (C.m + D) Q := ⟨gW0, gW1, HW, L.below HW⟩
  obtain ⟨_, b1, b2, b3, b4, b5, b6, b7⟩ := has.all
  go_region_held3 (fun w' => NS w w' C a1 a2 a3 a4 n k c1 c2 c3 c4 (C.m + D) Q ∧ w'.cell? ⟨w.heap.size, 1, none⟩ = some (.int .i64 C.m) ∧ w'.cell? ⟨w.heap.size, 2, none⟩ = some (.slice (some a1) n c1) ∧ w'.cell? ⟨w.heap.size, 3, none⟩ = some (.slice (some a2) n c2) ∧ w'.cell? ⟨w.heap.size, 4, none⟩ = some (.slice (some a3) k c3) ∧ w'.cell? ⟨w.heap.size, 5, none⟩ = some (.slice (some a4) k c4) ∧ w'.cell? ⟨w.heap.size + 1, 0, none⟩ = some (.int .i64 (C.m + D)) ∧ w'.cell? ⟨w.heap.size + 1, 1, none⟩ = some (.int .i64 Q))
    (first | (refine NS.all ?_; repeat (first | with_reducible exact has | with_reducible exact hasA | with_reducible exact hasB | with_reducible refine NS.drew ?_ | (with_reducible refine NS.set ?_ ?_ _; rotate_left; · (show w.heap.size + 1 < w.heap.size + 1 + 1; omega)))))
    (first | (go_at_call 47; (with_reducible refine ((unhide HA1) _ (NS.ly (NS.one ‹NS w _ _ _ _ _ _ _ _ _ _ _ _ _ _ ∧ _›))).mono ?_); rintro e wA ⟨rfl, hbA⟩; have hasA := NS.below hbA (NS.one ‹NS w _ _ _ _ _ _ _ _ _ _ _ _ _ _ ∧ _›); have gzA := gWz.drew.below hbA lWz; have lzA := gzA.lt) | (go_at_call 47; (with_reducible refine ((unhide HA2) _ (NS.ly (NS.one ‹NS w _ _ _ _ _ _ _ _ _ _ _ _ _ _ ∧ _›))).mono ?_); rintro e wB ⟨rfl, hbB⟩; have hasB := NS.below hbB (NS.one ‹NS w _ _ _ _ _ _ _ _ _ _ _ _ _ _ ∧ _›); have gzB := gzA.below hbB lzA; have zB0 := gzB.c2.1; have zB1 := gzB.c2.2; have fB0 := gzB.frozen 0; have fB1 := gzB.frozen 1))
  all_goals
    go_wp2
    refine bodyPost_ret (ret_cell rfl rfl (load_dq ((gzB.set_ 0 _).set_ 1 _))) rfl ⟨rfl, ?_⟩
    exact (hasB.b.setCell (by simp; try omega) _).setCell (by simp; try omega) _
end Go.Proofs.Ytmmplfokidnpnaa
