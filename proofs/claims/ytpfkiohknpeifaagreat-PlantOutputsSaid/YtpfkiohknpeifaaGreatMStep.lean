/- The walks of Step, and of the reference's. -/
import Derived.Test.YtpfkiohknpeifaaGreatMcC
import Derived.Test.YtpfkiohknpeifaaGreatMcD
namespace Go.Proofs.YtpfkiohknpeifaaGreat
open Go.RowKit
theorem cosA_mod {a b : Int} (h : a % 65536 = b % 65536) : cosA a = cosA b := by
  have h1 : a % 16384 = b % 16384 := by omega
  have h2 : a % 256 = b % 256 := by omega
  unfold cosA
  rw [h, h1, h2]
theorem sinA_mod {a b : Int} (h : a % 65536 = b % 65536) : sinA a = sinA b := by
  have h1 : a % 16384 = b % 16384 := by omega
  have h2 : a % 256 = b % 256 := by omega
  unfold sinA
  rw [h, h1, h2]
theorem turnU_mod (x y : Int) {a b : Int} (h : a % 65536 = b % 65536) : turnU x y a = turnU x y b := by unfold turnU; rw [cosA_mod h, sinA_mod h]
theorem turnV_mod (x y : Int) {a b : Int} (h : a % 65536 = b % 65536) : turnV x y a = turnV x y b := by unfold turnV; rw [cosA_mod h, sinA_mod h]
theorem neg_mod (t : Int) : wrap64 (-t) % 65536 = (-t) % 65536 := by unfold wrap64; omega
theorem tneg_mod (t : Int) : (-(t.tmod 65536)) % 65536 = (-t) % 65536 := by
  rcases Int.lt_or_le t 0 with h | h
  · rw [tmod_neg h]; omega
  · rw [tmod_pos h]; omega
theorem turnU_bd (x y a : Int) (hx : -536870912 ≤ x ∧ x ≤ 536870912) (hy : -536870912 ≤ y ∧ y ≤ 536870912) : -2147483648 ≤ turnU x y a ∧ turnU x y a ≤ 2147483648 := by
  have m1 := mul_bd (a := cosA a) (b := x) (A := 65536) (B := 536870912) (cosA_bd a) hx
  have m2 := mul_bd (a := sinA a) (b := y) (A := 65536) (B := 536870912) (sinA_bd a) hy
  exact tdiv_in (by omega) (by omega) (by omega)
theorem turnV_bd (x y a : Int) (hx : -536870912 ≤ x ∧ x ≤ 536870912) (hy : -536870912 ≤ y ∧ y ≤ 536870912) : -2147483648 ≤ turnV x y a ∧ turnV x y a ≤ 2147483648 := by
  have m1 := mul_bd (a := sinA a) (b := x) (A := 65536) (B := 536870912) (sinA_bd a) hx
  have m2 := mul_bd (a := cosA a) (b := y) (A := 65536) (B := 536870912) (cosA_bd a) hy
  exact tdiv_in (by omega) (by omega) (by omega)
/-- The flux behind a tick, before it is moved into its ranges. -/
def stD (C : Cf) (fd fq vd tn : Int) : Int := turnU (C.m + devD C fd) (devQ C fq) (-tn) + (clipI vd (-1048576) 1048576 - (C.r * curD C fd).tdiv 1000)
def stQ (C : Cf) (fd fq vq tn : Int) : Int := turnV (C.m + devD C fd) (devQ C fq) (-tn) + (clipI vq (-1048576) 1048576 - (C.r * curQ C fq).tdiv 1000)
theorem inX_far {X Y : List Int} (h : McOk X Y) (x m : Int) (hm : 0 ≤ m ∧ m ≤ 268435456) : inX X (clipI x (-1073741824) 1073741824 - m) = inX X (x - m) := by
  have h1 := mc_ends h
  unfold inX
  generalize g X 0 = lo at *
  generalize g X (X.length - 1) = hi at *
  unfold clipI
  by_cases a : x < -1073741824
  · rw [if_pos a]
    rw [if_pos (by omega), if_pos (by omega)]
  · by_cases b : 1073741824 < x
    · rw [if_neg a, if_pos b]
      rw [if_neg (by omega), if_pos (by omega), if_neg (by omega), if_pos (by omega)]
    · rw [if_neg a, if_neg b]
theorem devD_far {C : Cf} (ok : CfOk C) (x : Int) : devD C x = inX C.dx (x - C.m) := inX_far ok.d x C.m ok.m
theorem devQ_far {C : Cf} (ok : CfOk C) (x : Int) : devQ C x = inX C.qx x := by
  have := inX_far ok.q x 0 (by omega)
  rw [Int.sub_zero, Int.sub_zero] at this
  exact this
set_option maxRecDepth 100000 in
set_option maxHeartbeats 1600000 in
theorem stepM_bad (C : Cf) (A1 A2 A3 A4 : Option Addr) (n1 n2 n3 n4 c1 c2 c3 c4 : Nat) (fd fq vd vq tn : Int) (w : World) (L : Ly w w.heap.size C A1 A2 A3 A4 n1 n2 n3 n4) (hc : cfCode C ≠ 0) :
    Calls Tryz.prog 93 #[.agg #[.int .i64 C.r, .int .i64 C.m, .slice A1 n1 c1, .slice A2 n2 c2, .slice A3 n3 c3, .slice A4 n4 c4, .int .i64 C.p, .int .i64 C.s, .int .i64 C.f], .agg #[.int .i64 fd, .int .i64 fq], .agg #[.int .i64 vd, .int .i64 vq, .int .i64 tn]] w fun e w' => e = .returned (.tuple #[.agg #[.int .i64 0, .int .i64 0], errV (cfCode C)]) ∧ Below w.heap.size w w' := by
  have hb0 := ((((Below.refl w.heap.size w).alloc (Nat.le_refl _) (.cells #[.int .i64 C.r, .int .i64 C.m, .slice A1 n1 c1, .slice A2 n2 c2, .slice A3 n3 c3, .slice A4 n4 c4, .int .i64 C.p, .int .i64 C.s, .int .i64 C.f] 26)).alloc (by simp) (.cells #[.int .i64 fd, .int .i64 fq] 41)).alloc (by simp <;> omega) (.cells #[.int .i64 vd, .int .i64 vq, .int .i64 tn] 129)).alloc (by simp <;> omega) (.cells #[.int .i64 0, .int .i64 0] 41)
  have gz := Blk.new' (w := ((w.alloc (.cells #[.int .i64 C.r, .int .i64 C.m, .slice A1 n1 c1, .slice A2 n2 c2, .slice A3 n3 c3, .slice A4 n4 c4, .int .i64 C.p, .int .i64 C.s, .int .i64 C.f] 26)).alloc (.cells #[.int .i64 fd, .int .i64 fq] 41)).alloc (.cells #[.int .i64 vd, .int .i64 vq, .int .i64 tn] 129)) (t := 41) (cs := #[.int .i64 0, .int .i64 0]) (g := w.heap.size + 1 + 1 + 1) (by simp)
  have L0 := (((L.new (.cells #[.int .i64 C.r, .int .i64 C.m, .slice A1 n1 c1, .slice A2 n2 c2, .slice A3 n3 c3, .slice A4 n4 c4, .int .i64 C.p, .int .i64 C.s, .int .i64 C.f] 26)).new (.cells #[.int .i64 fd, .int .i64 fq] 41)).new (.cells #[.int .i64 vd, .int .i64 vq, .int .i64 tn] 129)).new (.cells #[.int .i64 0, .int .i64 0] 41)
  have hcu := fun (W : World) (h : Ly W W.heap.size C A1 A2 A3 A4 n1 n2 n3 n4) => currentsM_bad C A1 A2 A3 A4 n1 n2 n3 n4 c1 c2 c3 c4 fd fq W h hc
  obtain ⟨cd, hcd⟩ : ∃ x, cfCode C = x := ⟨_, rfl⟩
  rw [hcd] at hc ⊢
  simp only [hcd, errV_ne hc] at hcu
  rw [errV_ne hc]
  have HCU := hide hcu
  clear hcu hcd
  go_enter Tryz.func93, Tryz.ntmps93
  go_wp2_with fail
  refine ((unhide HCU) _ L0).mono ?_
  rintro e w1 ⟨rfl, hb1⟩
  have HB1 := hb0.trans (hb1.mono hb0.size)
  have gz1 := gz.below hb1 gz.lt
  have lz1 := gz1.lt
  have lz1' : w.heap.size + 1 + 1 + 1 < w1.heap.size + 1 := by omega
  obtain ⟨z0, z1⟩ := gz1.c2
  have f0 := gz1.frozen 0
  have f1 := gz1.frozen 1
  go_wp2
  refine bodyPost_ret (ret_cell_tmp rfl rfl (load_ms (((gz1.set_ 0 _).set_ 1 _).alloc _))) rfl ⟨rfl, ?_⟩
  exact ((HB1.setCell (by simp; try omega) _).setCell (by simp; try omega) _).alloc (by simp; have := HB1.size; omega) _
set_option maxRecDepth 100000 in
set_option maxHeartbeats 3200000 in
theorem stepM (C : Cf) (a1 a2 a3 a4 : Addr) (n k c1 c2 c3 c4 : Nat) (fd fq vd vq tn : Int) (w : World) (L : Ly w w.heap.size C (some a1) (some a2) (some a3) (some a4) n n k k) (hc : cfCode C = 0) :
    Calls Tryz.prog 93 #[.agg #[.int .i64 C.r, .int .i64 C.m, .slice (some a1) n c1, .slice (some a2) n c2, .slice (some a3) k c3, .slice (some a4) k c4, .int .i64 C.p, .int .i64 C.s, .int .i64 C.f], .agg #[.int .i64 fd, .int .i64 fq], .agg #[.int .i64 vd, .int .i64 vq, .int .i64 tn]] w fun e w' => e = .returned (.tuple #[.agg #[.int .i64 (C.m + inX C.dx (stD C fd fq vd tn - C.m)), .int .i64 (inX C.qx (stQ C fd fq vq tn))], .nilIface]) ∧ Below w.heap.size w w' := by
  have ok := cf_ok hc
  have hb0 := ((((Below.refl w.heap.size w).alloc (Nat.le_refl _) (.cells #[.int .i64 C.r, .int .i64 C.m, .slice (some a1) n c1, .slice (some a2) n c2, .slice (some a3) k c3, .slice (some a4) k c4, .int .i64 C.p, .int .i64 C.s, .int .i64 C.f] 26)).alloc (by simp) (.cells #[.int .i64 fd, .int .i64 fq] 41)).alloc (by simp <;> omega) (.cells #[.int .i64 vd, .int .i64 vq, .int .i64 tn] 129)).alloc (by simp <;> omega) (.cells #[.int .i64 0, .int .i64 0] 41)
  have g0 := (((Blk.new w 26 #[.int .i64 C.r, .int .i64 C.m, .slice (some a1) n c1, .slice (some a2) n c2, .slice (some a3) k c3, .slice (some a4) k c4, .int .i64 C.p, .int .i64 C.s, .int .i64 C.f]).alloc (.cells #[.int .i64 fd, .int .i64 fq] 41)).alloc (.cells #[.int .i64 vd, .int .i64 vq, .int .i64 tn] 129)).alloc (.cells #[.int .i64 0, .int .i64 0] 41)
  have g1 := ((Blk.new' (w := w.alloc (.cells #[.int .i64 C.r, .int .i64 C.m, .slice (some a1) n c1, .slice (some a2) n c2, .slice (some a3) k c3, .slice (some a4) k c4, .int .i64 C.p, .int .i64 C.s, .int .i64 C.f] 26)) (t := 41) (cs := #[.int .i64 fd, .int .i64 fq]) (g := w.heap.size + 1) (by simp)).alloc (.cells #[.int .i64 vd, .int .i64 vq, .int .i64 tn] 129)).alloc (.cells #[.int .i64 0, .int .i64 0] 41)
  have gx := (Blk.new' (w := (w.alloc (.cells #[.int .i64 C.r, .int .i64 C.m, .slice (some a1) n c1, .slice (some a2) n c2, .slice (some a3) k c3, .slice (some a4) k c4, .int .i64 C.p, .int .i64 C.s, .int .i64 C.f] 26)).alloc (.cells #[.int .i64 fd, .int .i64 fq] 41)) (t := 129) (cs := #[.int .i64 vd, .int .i64 vq, .int .i64 tn]) (g := w.heap.size + 1 + 1) (by simp)).alloc (.cells #[.int .i64 0, .int .i64 0] 41)
  have gz := Blk.new' (w := ((w.alloc (.cells #[.int .i64 C.r, .int .i64 C.m, .slice (some a1) n c1, .slice (some a2) n c2, .slice (some a3) k c3, .slice (some a4) k c4, .int .i64 C.p, .int .i64 C.s, .int .i64 C.f] 26)).alloc (.cells #[.int .i64 fd, .int .i64 fq] 41)).alloc (.cells #[.int .i64 vd, .int .i64 vq, .int .i64 tn] 129)) (t := 41) (cs := #[.int .i64 0, .int .i64 0]) (g := w.heap.size + 1 + 1 + 1) (by simp)
  have L0 := (((L.new (.cells #[.int .i64 C.r, .int .i64 C.m, .slice (some a1) n c1, .slice (some a2) n c2, .slice (some a3) k c3, .slice (some a4) k c4, .int .i64 C.p, .int .i64 C.s, .int .i64 C.f] 26)).new (.cells #[.int .i64 fd, .int .i64 fq] 41)).new (.cells #[.int .i64 vd, .int .i64 vq, .int .i64 tn] 129)).new (.cells #[.int .i64 0, .int .i64 0] 41)
  have hcu := fun (W : World) (h : Ly W W.heap.size C (some a1) (some a2) (some a3) (some a4) n n k k) => currentsM C a1 a2 a3 a4 n k c1 c2 c3 c4 fd fq W h hc
  have hof := fun (W : World) (h : Ly W W.heap.size C (some a1) (some a2) (some a3) (some a4) n n k k) => offM C a1 a2 a3 a4 n k c1 c2 c3 c4 fd fq W h ok
  have bd := devD_bd ok fd
  have bq := devQ_bd ok fq
  have bi := curD_bd ok fd
  have bj := curQ_bd ok fq
  have bm := ok.m
  have br := ok.r
  have htu := fun W => turnM (C.m + devD C fd) (devQ C fq) (wrap64 (-tn)) (by omega) (by omega) W
  simp only [turnU_mod (C.m + devD C fd) (devQ C fq) (neg_mod tn), turnV_mod (C.m + devD C fd) (devQ C fq) (neg_mod tn)] at htu
  have bu := turnU_bd (C.m + devD C fd) (devQ C fq) (-tn) (by omega) (by omega)
  have bv := turnV_bd (C.m + devD C fd) (devQ C fq) (-tn) (by omega) (by omega)
  have v1 : stD C fd fq vd tn = turnU (C.m + devD C fd) (devQ C fq) (-tn) + (clipI vd (-1048576) 1048576 - (C.r * curD C fd).tdiv 1000) := rfl
  have v2 : stQ C fd fq vq tn = turnV (C.m + devD C fd) (devQ C fq) (-tn) + (clipI vq (-1048576) 1048576 - (C.r * curQ C fq).tdiv 1000) := rfl
  obtain ⟨I, hI⟩ : ∃ x, curD C fd = x := ⟨_, rfl⟩
  obtain ⟨J, hJ⟩ : ∃ x, curQ C fq = x := ⟨_, rfl⟩
  obtain ⟨U, hU⟩ : ∃ x, turnU (C.m + devD C fd) (devQ C fq) (-tn) = x := ⟨_, rfl⟩
  obtain ⟨V, hV⟩ : ∃ x, turnV (C.m + devD C fd) (devQ C fq) (-tn) = x := ⟨_, rfl⟩
  simp only [hU, hV] at htu
  rw [hU] at bu v1
  rw [hV] at bv v2
  obtain ⟨D, hD⟩ : ∃ x, devD C fd = x := ⟨_, rfl⟩
  obtain ⟨Q, hQ⟩ : ∃ x, devQ C fq = x := ⟨_, rfl⟩
  simp only [hD, hQ] at hof htu
  simp only [hI, hJ] at hcu
  rw [hI] at bi v1
  rw [hJ] at bj v2
  rw [hD] at bd
  rw [hQ] at bq
  have m1 := mul_bd (a := C.r) (b := I) (A := 1048576) (B := 1048576) (by omega) (by omega)
  have m2 := mul_bd (a := C.r) (b := J) (A := 1048576) (B := 1048576) (by omega) (by omega)
  have e1 : IntKind.i64.wrap (C.r * I) = C.r * I := IntWalk.i64_in _ (by omega)
  have e2 : IntKind.i64.wrap (C.r * J) = C.r * J := IntWalk.i64_in _ (by omega)
  have e3 : IntKind.i64.wrap (C.m + D) = C.m + D := IntWalk.i64_in _ (by omega)
  have t1 := tdiv_in (a := C.r * I) (b := 1000) (A := -1099511628) (B := 1099511628) (by omega) (by omega) (by omega)
  have t2 := tdiv_in (a := C.r * J) (b := 1000) (A := -1099511628) (B := 1099511628) (by omega) (by omega) (by omega)
  obtain ⟨R1, hR1⟩ : ∃ x, (C.r * I).tdiv 1000 = x := ⟨_, rfl⟩
  obtain ⟨R2, hR2⟩ : ∃ x, (C.r * J).tdiv 1000 = x := ⟨_, rfl⟩
  rw [hR1] at t1 v1
  rw [hR2] at t2 v2
  have b1 := clipI_in vd (-1048576) 1048576 (by omega)
  have b2 := clipI_in vq (-1048576) 1048576 (by omega)
  have q1 := fun W => clipM vd (-1048576) 1048576 (by omega) W
  have q2 := fun W => clipM vq (-1048576) 1048576 (by omega) W
  obtain ⟨K1, hK1⟩ : ∃ x, clipI vd (-1048576) 1048576 = x := ⟨_, rfl⟩
  obtain ⟨K2, hK2⟩ : ∃ x, clipI vq (-1048576) 1048576 = x := ⟨_, rfl⟩
  simp only [hK1] at q1 b1 v1
  simp only [hK2] at q2 b2 v2
  have hst := fun (W : World) (h : Ly W W.heap.size C (some a1) (some a2) (some a3) (some a4) n n k k) => stateM C a1 a2 a3 a4 n k c1 c2 c3 c4 (stD C fd fq vd tn - C.m) (stQ C fd fq vq tn) W h ok
  obtain ⟨X1, hX1⟩ : ∃ x, C.m + inX C.dx (stD C fd fq vd tn - C.m) = x := ⟨_, rfl⟩
  obtain ⟨X2, hX2⟩ : ∃ x, inX C.qx (stQ C fd fq vq tn) = x := ⟨_, rfl⟩
  simp only [hX1, hX2] at hst ⊢
  rw [v1, v2] at hst
  have r1 : IntKind.i64.wrap R1 = R1 := IntWalk.i64_in _ (by omega)
  have r2 : IntKind.i64.wrap R2 = R2 := IntWalk.i64_in _ (by omega)
  have r3 : IntKind.i64.wrap (K1 - R1) = K1 - R1 := IntWalk.i64_in _ (by omega)
  have r4 : IntKind.i64.wrap (K2 - R2) = K2 - R2 := IntWalk.i64_in _ (by omega)
  have r5 : IntKind.i64.wrap (U + (K1 - R1)) = U + (K1 - R1) := IntWalk.i64_in _ (by omega)
  have r6 : IntKind.i64.wrap (V + (K2 - R2)) = V + (K2 - R2) := IntWalk.i64_in _ (by omega)
  have r7 : IntKind.i64.wrap (U + (K1 - R1) - C.m) = U + (K1 - R1) - C.m := IntWalk.i64_in _ (by omega)
  have w1 : wrap64 R1 = R1 := by unfold wrap64; omega
  have w2 : wrap64 R2 = R2 := by unfold wrap64; omega
  have HCU := hide hcu
  have HOF := hide hof
  have HTU := hide htu
  have HST := hide hst
  have Q1 := hide q1
  have Q2 := hide q2
  clear hcu hof htu hst q1 q2 hD hQ hI hJ hU hV hK1 hK2 hX1 hX2 v1 v2 m1 m2 ok hc
  go_enter Tryz.func93, Tryz.ntmps93
  go_wp2_with fail
  refine ((unhide HCU) _ L0).mono ?_
  rintro e w1 ⟨rfl, hb1⟩
  have HB1 := hb0.trans (hb1.mono hb0.size)
  have g01 := g0.below hb1 g0.lt
  have g11 := g1.below hb1 g1.lt
  have gx1 := gx.below hb1 gx.lt
  have gz1 := gz.below hb1 gz.lt
  have L1 := L0.to hb1
  have l01 := g01.lt
  have l11 := g11.lt
  have lx1 := gx1.lt
  have lz1 := gz1.lt
  have l01' : w.heap.size < w1.heap.size + 1 := by omega
  have l11' : w.heap.size + 1 < w1.heap.size + 1 := by omega
  obtain ⟨y0, y1, y2, y3, y4, y5, y6, y7, y8⟩ := g01.c9
  obtain ⟨z0, z1⟩ := g11.c2
  go_wp2_with fail
  refine ((unhide HOF) _ (L1.new _)).mono ?_
  rintro e w2 ⟨rfl, hb2⟩
  have gi := Blk.new' (w := w1) (t := 39) (cs := #[.int .i64 I, .int .i64 J]) (g := w1.heap.size) rfl
  have gi2 := gi.below hb2 gi.lt
  have g02 := (g01.alloc _).below hb2 (by simp; omega)
  have gx2 := (gx1.alloc _).below hb2 (by simp; omega)
  have gz2 := (gz1.alloc _).below hb2 (by simp; omega)
  have HB2 := (HB1.alloc HB1.size _).trans (hb2.mono (by simp; omega))
  have L2 := (L1.new _).to hb2
  have li2 := gi2.lt
  have l02 := g02.lt
  have lx2 := gx2.lt
  clear y0 y1 y2 y3 y4 y5 y6 y7 y8 z0 z1 gi
  obtain ⟨y0, y1, y2, y3, y4, y5, y6, y7, y8⟩ := g02.c9
  obtain ⟨x0, x1, x2⟩ := gx2.c3
  go_wp2_with fail
  with_reducible refine ((unhide HTU) _).mono ?_
  rintro e w3 ⟨rfl, hb3⟩
  have gi3 := gi2.below hb3 gi2.lt
  have g03 := g02.below hb3 g02.lt
  have gx3 := gx2.below hb3 gx2.lt
  have gz3 := gz2.below hb3 gz2.lt
  have HB3 := HB2.trans (hb3.mono HB2.size)
  have L3 := L2.to hb3
  have li3 := gi3.lt
  have l03 := g03.lt
  have lx3 := gx3.lt
  clear y0 y1 y2 y3 y4 y5 y6 y7 y8 x0 x1 x2
  obtain ⟨y0, y1, y2, y3, y4, y5, y6, y7, y8⟩ := g03.c9
  obtain ⟨x0, x1, x2⟩ := gx3.c3
  obtain ⟨i0, i1⟩ := gi3.c2
  go_wp2
  go_quiet ((go_at_call 95; exact quiet_left ((unhide Q1) _)))
  go_wp2
  go_quiet ((go_at_call 95; exact quiet_add_left ((unhide Q2) _)))
  go_wp2_with fail
  refine ((unhide HST) _ (L3.drewN _)).mono ?_
  rintro e w4 ⟨rfl, hb4⟩
  have gz4 := (gz3.drewN _).below hb4 gz3.lt
  have HB4 := (below_drewN HB3 _).trans (hb4.mono HB3.size)
  have lz4 := gz4.lt
  obtain ⟨z0, z1⟩ := gz4.c2
  have f0 := gz4.frozen 0
  have f1 := gz4.frozen 1
  go_wp2
  refine bodyPost_ret (ret_cell_tmp rfl rfl (load_ms ((gz4.set_ 0 _).set_ 1 _))) rfl ⟨rfl, ?_⟩
  exact (HB4.setCell (by simp; try omega) _).setCell (by simp; try omega) _
set_option maxRecDepth 100000 in
set_option maxHeartbeats 3200000 in
theorem stepR (C : Cf) (a1 a2 a3 a4 : Addr) (n k c1 c2 c3 c4 : Nat) (fd fq vd vq tn : Int) (w : World) (L : Ly w w.heap.size C (some a1) (some a2) (some a3) (some a4) n n k k) (ok : CfOk C) :
    Calls Tryz.prog 58 #[.agg #[.int .i64 C.r, .int .i64 C.m, .slice (some a1) n c1, .slice (some a2) n c2, .slice (some a3) k c3, .slice (some a4) k c4, .int .i64 C.p, .int .i64 C.s, .int .i64 C.f], .agg #[.int .i64 fd, .int .i64 fq], .agg #[.int .i64 vd, .int .i64 vq, .int .i64 tn]] w fun e w' => e = .returned (.agg #[.int .i64 (C.m + inX C.dx (stD C fd fq vd tn - C.m)), .int .i64 (inX C.qx (stQ C fd fq vq tn))]) ∧ Below w.heap.size w w' := by
  have hb0 := ((((Below.refl w.heap.size w).alloc (Nat.le_refl _) (.cells #[.int .i64 C.r, .int .i64 C.m, .slice (some a1) n c1, .slice (some a2) n c2, .slice (some a3) k c3, .slice (some a4) k c4, .int .i64 C.p, .int .i64 C.s, .int .i64 C.f] 26)).alloc (by simp) (.cells #[.int .i64 fd, .int .i64 fq] 41)).alloc (by simp <;> omega) (.cells #[.int .i64 vd, .int .i64 vq, .int .i64 tn] 129)).alloc (by simp <;> omega) (.cells #[.int .i64 0, .int .i64 0] 41)
  have g0 := (((Blk.new w 26 #[.int .i64 C.r, .int .i64 C.m, .slice (some a1) n c1, .slice (some a2) n c2, .slice (some a3) k c3, .slice (some a4) k c4, .int .i64 C.p, .int .i64 C.s, .int .i64 C.f]).alloc (.cells #[.int .i64 fd, .int .i64 fq] 41)).alloc (.cells #[.int .i64 vd, .int .i64 vq, .int .i64 tn] 129)).alloc (.cells #[.int .i64 0, .int .i64 0] 41)
  have g1 := ((Blk.new' (w := w.alloc (.cells #[.int .i64 C.r, .int .i64 C.m, .slice (some a1) n c1, .slice (some a2) n c2, .slice (some a3) k c3, .slice (some a4) k c4, .int .i64 C.p, .int .i64 C.s, .int .i64 C.f] 26)) (t := 41) (cs := #[.int .i64 fd, .int .i64 fq]) (g := w.heap.size + 1) (by simp)).alloc (.cells #[.int .i64 vd, .int .i64 vq, .int .i64 tn] 129)).alloc (.cells #[.int .i64 0, .int .i64 0] 41)
  have gx := (Blk.new' (w := (w.alloc (.cells #[.int .i64 C.r, .int .i64 C.m, .slice (some a1) n c1, .slice (some a2) n c2, .slice (some a3) k c3, .slice (some a4) k c4, .int .i64 C.p, .int .i64 C.s, .int .i64 C.f] 26)).alloc (.cells #[.int .i64 fd, .int .i64 fq] 41)) (t := 129) (cs := #[.int .i64 vd, .int .i64 vq, .int .i64 tn]) (g := w.heap.size + 1 + 1) (by simp)).alloc (.cells #[.int .i64 0, .int .i64 0] 41)
  have gz := Blk.new' (w := ((w.alloc (.cells #[.int .i64 C.r, .int .i64 C.m, .slice (some a1) n c1, .slice (some a2) n c2, .slice (some a3) k c3, .slice (some a4) k c4, .int .i64 C.p, .int .i64 C.s, .int .i64 C.f] 26)).alloc (.cells #[.int .i64 fd, .int .i64 fq] 41)).alloc (.cells #[.int .i64 vd, .int .i64 vq, .int .i64 tn] 129)) (t := 41) (cs := #[.int .i64 0, .int .i64 0]) (g := w.heap.size + 1 + 1 + 1) (by simp)
  have L0 := (((L.new (.cells #[.int .i64 C.r, .int .i64 C.m, .slice (some a1) n c1, .slice (some a2) n c2, .slice (some a3) k c3, .slice (some a4) k c4, .int .i64 C.p, .int .i64 C.s, .int .i64 C.f] 26)).new (.cells #[.int .i64 fd, .int .i64 fq] 41)).new (.cells #[.int .i64 vd, .int .i64 vq, .int .i64 tn] 129)).new (.cells #[.int .i64 0, .int .i64 0] 41)
  have hno := fun (W : World) (h : Ly W W.heap.size C (some a1) (some a2) (some a3) (some a4) n n k k) => normalR C a1 a2 a3 a4 n k c1 c2 c3 c4 fd fq W h ok
  have hcu := fun (W : World) (h : Ly W W.heap.size C (some a1) (some a2) (some a3) (some a4) n n k k) => currentsR C a1 a2 a3 a4 n k c1 c2 c3 c4 (C.m + devD C fd) (devQ C fq) W h ok
  have ec1 : curD C (C.m + devD C fd) = curD C fd := by unfold curD; rw [devD_idem ok]
  have ec2 : curQ C (devQ C fq) = curQ C fq := by unfold curQ; rw [devQ_idem ok]
  simp only [ec1, ec2] at hcu
  have bd := devD_bd ok fd
  have bq := devQ_bd ok fq
  have bi := curD_bd ok fd
  have bj := curQ_bd ok fq
  have bm := ok.m
  have br := ok.r
  have tb := tmod_bd tn
  have htu := fun W => turnR (C.m + devD C fd) (devQ C fq) (-(tn.tmod 65536)) (by omega) (by omega) W
  simp only [turnU_mod (C.m + devD C fd) (devQ C fq) (tneg_mod tn), turnV_mod (C.m + devD C fd) (devQ C fq) (tneg_mod tn)] at htu
  obtain ⟨tm, htm⟩ : ∃ x, tn.tmod 65536 = x := ⟨_, rfl⟩
  simp only [htm] at htu tb
  have bu := turnU_bd (C.m + devD C fd) (devQ C fq) (-tn) (by omega) (by omega)
  have bv := turnV_bd (C.m + devD C fd) (devQ C fq) (-tn) (by omega) (by omega)
  have v1 : stD C fd fq vd tn = turnU (C.m + devD C fd) (devQ C fq) (-tn) + (clipI vd (-1048576) 1048576 - (C.r * curD C fd).tdiv 1000) := rfl
  have v2 : stQ C fd fq vq tn = turnV (C.m + devD C fd) (devQ C fq) (-tn) + (clipI vq (-1048576) 1048576 - (C.r * curQ C fq).tdiv 1000) := rfl
  obtain ⟨I, hI⟩ : ∃ x, curD C fd = x := ⟨_, rfl⟩
  obtain ⟨J, hJ⟩ : ∃ x, curQ C fq = x := ⟨_, rfl⟩
  obtain ⟨U, hU⟩ : ∃ x, turnU (C.m + devD C fd) (devQ C fq) (-tn) = x := ⟨_, rfl⟩
  obtain ⟨V, hV⟩ : ∃ x, turnV (C.m + devD C fd) (devQ C fq) (-tn) = x := ⟨_, rfl⟩
  simp only [hU, hV] at htu
  rw [hU] at bu v1
  rw [hV] at bv v2
  obtain ⟨D, hD⟩ : ∃ x, C.m + devD C fd = x := ⟨_, rfl⟩
  obtain ⟨Q, hQ⟩ : ∃ x, devQ C fq = x := ⟨_, rfl⟩
  simp only [hD, hQ] at hno htu
  simp only [hD, hQ, hI, hJ] at hcu
  rw [hI] at bi v1
  rw [hJ] at bj v2
  have bd : -536870912 ≤ D ∧ D ≤ 536870912 := by omega
  rw [hQ] at bq
  have m1 := mul_bd (a := C.r) (b := I) (A := 1048576) (B := 1048576) (by omega) (by omega)
  have m2 := mul_bd (a := C.r) (b := J) (A := 1048576) (B := 1048576) (by omega) (by omega)
  have e1 : IntKind.i64.wrap (C.r * I) = C.r * I := IntWalk.i64_in _ (by omega)
  have e2 : IntKind.i64.wrap (C.r * J) = C.r * J := IntWalk.i64_in _ (by omega)
  have e3 : IntKind.i64.wrap (-tm) = -tm := IntWalk.i64_in _ (by omega)
  have e4 : wrap64 (-tm) = -tm := by unfold wrap64; omega
  have e5 : wrap64 tm = tm := by unfold wrap64; omega
  have t1 := tdiv_in (a := C.r * I) (b := 1000) (A := -1099511628) (B := 1099511628) (by omega) (by omega) (by omega)
  have t2 := tdiv_in (a := C.r * J) (b := 1000) (A := -1099511628) (B := 1099511628) (by omega) (by omega) (by omega)
  obtain ⟨R1, hR1⟩ : ∃ x, (C.r * I).tdiv 1000 = x := ⟨_, rfl⟩
  obtain ⟨R2, hR2⟩ : ∃ x, (C.r * J).tdiv 1000 = x := ⟨_, rfl⟩
  rw [hR1] at t1 v1
  rw [hR2] at t2 v2
  have b1 := clipI_in vd (-1048576) 1048576 (by omega)
  have b2 := clipI_in vq (-1048576) 1048576 (by omega)
  have q1 := fun W => clipR vd (-1048576) 1048576 (by omega) W
  have q2 := fun W => clipR vq (-1048576) 1048576 (by omega) W
  obtain ⟨K1, hK1⟩ : ∃ x, clipI vd (-1048576) 1048576 = x := ⟨_, rfl⟩
  obtain ⟨K2, hK2⟩ : ∃ x, clipI vq (-1048576) 1048576 = x := ⟨_, rfl⟩
  simp only [hK1] at q1 b1 v1
  simp only [hK2] at q2 b2 v2
  have hst := fun (W : World) (h : Ly W W.heap.size C (some a1) (some a2) (some a3) (some a4) n n k k) => normalR C a1 a2 a3 a4 n k c1 c2 c3 c4 (stD C fd fq vd tn) (stQ C fd fq vq tn) W h ok
  simp only [devD_far ok, devQ_far ok] at hst
  obtain ⟨X1, hX1⟩ : ∃ x, C.m + inX C.dx (stD C fd fq vd tn - C.m) = x := ⟨_, rfl⟩
  obtain ⟨X2, hX2⟩ : ∃ x, inX C.qx (stQ C fd fq vq tn) = x := ⟨_, rfl⟩
  simp only [hX1, hX2] at hst ⊢
  simp only [v1, v2] at hst
  have r1 : IntKind.i64.wrap R1 = R1 := IntWalk.i64_in _ (by omega)
  have r2 : IntKind.i64.wrap R2 = R2 := IntWalk.i64_in _ (by omega)
  have r3 : IntKind.i64.wrap (K1 - R1) = K1 - R1 := IntWalk.i64_in _ (by omega)
  have r4 : IntKind.i64.wrap (K2 - R2) = K2 - R2 := IntWalk.i64_in _ (by omega)
  have r5 : IntKind.i64.wrap (U + (K1 - R1)) = U + (K1 - R1) := IntWalk.i64_in _ (by omega)
  have r6 : IntKind.i64.wrap (V + (K2 - R2)) = V + (K2 - R2) := IntWalk.i64_in _ (by omega)
  have w1 : wrap64 R1 = R1 := by unfold wrap64; omega
  have w2 : wrap64 R2 = R2 := by unfold wrap64; omega
  have HCU := hide hcu
  have HNO := hide hno
  have HTU := hide htu
  have HST := hide hst
  have Q1 := hide q1
  have Q2 := hide q2
  clear hcu hno htu hst q1 q2 hD hQ hI hJ hU hV hK1 hK2 hX1 hX2 v1 v2 m1 m2 ok ec1 ec2
  go_enter Tryz.func58, Tryz.ntmps58
  go_wp2_with fail
  with_reducible refine ((unhide HNO) _ L0).mono ?_
  rintro e w1 ⟨rfl, hb1⟩
  have HB1 := hb0.trans (hb1.mono hb0.size)
  have g01 := g0.below hb1 g0.lt
  have g11 := g1.below hb1 g1.lt
  have gx1 := gx.below hb1 gx.lt
  have gz1 := gz.below hb1 gz.lt
  have l01 := g01.lt
  have l11 := g11.lt
  have lx1 := gx1.lt
  have lz1 := gz1.lt
  obtain ⟨y0, y1, y2, y3, y4, y5, y6, y7, y8⟩ := g01.c9
  obtain ⟨z0, z1⟩ := g11.c2
  have f0 := g11.frozen 0
  have f1 := g11.frozen 1
  go_wp2_with fail
  obtain ⟨W, hW⟩ : ∃ W, ((w1.setCell ⟨w.heap.size + 1, 0, none⟩ (.int .i64 D)).setCell ⟨w.heap.size + 1, 1, none⟩ (.int .i64 Q)) = W := ⟨_, rfl⟩
  have gW0 : Blk W w.heap.size 26 #[.int .i64 C.r, .int .i64 C.m, .slice (some a1) n c1, .slice (some a2) n c2, .slice (some a3) k c3, .slice (some a4) k c4, .int .i64 C.p, .int .i64 C.s, .int .i64 C.f] := by rw [← hW]; exact (g01.far (by simp) _).far (by simp) _
  have gW1 : Blk W (w.heap.size + 1) 41 #[.int .i64 D, .int .i64 Q] := by rw [← hW]; exact (g11.set_ 0 _).set_ 1 _
  have gWx : Blk W (w.heap.size + 1 + 1) 129 #[.int .i64 vd, .int .i64 vq, .int .i64 tn] := by rw [← hW]; exact (gx1.far (by simp <;> omega) _).far (by simp <;> omega) _
  have gWz : Blk W (w.heap.size + 1 + 1 + 1) 41 #[.int .i64 0, .int .i64 0] := by rw [← hW]; exact (gz1.far (by simp <;> omega) _).far (by simp <;> omega) _
  have HW : Below w.heap.size w W := by rw [← hW]; exact (HB1.setCell (by simp) _).setCell (by simp) _
  simp only [hW]
  clear hW y0 y1 y2 y3 y4 y5 y6 y7 y8 z0 z1 f0 f1 g01 g11 gx1 gz1 l11 l01 lx1 lz1
  have LW := (L.below HW).more HW.size
  with_reducible refine ((unhide HCU) _ LW).mono ?_
  rintro e w2 ⟨rfl, hb2⟩
  have HB2 := HW.trans (hb2.mono HW.size)
  have g02 := gW0.below hb2 gW0.lt
  have g12 := gW1.below hb2 gW1.lt
  have gx2 := gWx.below hb2 gWx.lt
  have gz2 := gWz.below hb2 gWz.lt
  have l12 := g12.lt
  have l02 := g02.lt
  have lx2 := gx2.lt
  have l12' : w.heap.size + 1 < w2.heap.size + 1 := by omega
  have l02' : w.heap.size < w2.heap.size + 1 := by omega
  have lx2' : w.heap.size + 1 + 1 < w2.heap.size + 1 := by omega
  obtain ⟨y0, y1, y2, y3, y4, y5, y6, y7, y8⟩ := g02.c9
  obtain ⟨z0, z1⟩ := g12.c2
  obtain ⟨x0, x1, x2⟩ := gx2.c3
  go_wp2_with fail
  with_reducible refine ((unhide HTU) _).mono ?_
  rintro e w3 ⟨rfl, hb3⟩
  have gi := Blk.new' (w := w2) (t := 39) (cs := #[.int .i64 I, .int .i64 J]) (g := w2.heap.size) rfl
  have gi3 := gi.below hb3 gi.lt
  have g03 := (g02.alloc _).below hb3 (by simp; omega)
  have gx3 := (gx2.alloc _).below hb3 (by simp; omega)
  have gz3 := (gz2.alloc _).below hb3 (by simp; have := gz2.lt; omega)
  have HB3 := (HB2.alloc HB2.size _).trans (hb3.mono (by simp; omega))
  have li3 := gi3.lt
  have l03 := g03.lt
  have lx3 := gx3.lt
  clear y0 y1 y2 y3 y4 y5 y6 y7 y8 z0 z1 x0 x1 x2 gi
  obtain ⟨y0, y1, y2, y3, y4, y5, y6, y7, y8⟩ := g03.c9
  obtain ⟨x0, x1, x2⟩ := gx3.c3
  obtain ⟨i0, i1⟩ := gi3.c2
  go_wp2
  go_quiet ((go_at_call 114; exact quiet_left ((unhide Q1) _)))
  go_wp2
  go_quiet ((go_at_call 114; exact quiet_add_left ((unhide Q2) _)))
  go_wp2_with fail
  with_reducible refine ((unhide HST) _ (((L.below HB3).more HB3.size).drewN _)).mono ?_
  rintro e w4 ⟨rfl, hb4⟩
  have gz4 := (gz3.drewN _).below hb4 gz3.lt
  have HB4 := (below_drewN HB3 _).trans (hb4.mono HB3.size)
  have lz4 := gz4.lt
  obtain ⟨z0, z1⟩ := gz4.c2
  have f0 := gz4.frozen 0
  have f1 := gz4.frozen 1
  go_wp2
  refine bodyPost_ret (ret_cell rfl rfl (load_ms ((gz4.set_ 0 _).set_ 1 _))) rfl ⟨rfl, ?_⟩
  exact (HB4.setCell (by simp; try omega) _).setCell (by simp; try omega) _
end Go.Proofs.YtpfkiohknpeifaaGreat
