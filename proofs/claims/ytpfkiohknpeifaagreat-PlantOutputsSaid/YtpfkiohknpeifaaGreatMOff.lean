/- The walks of Off, and of the reference's Length and Off. -/
import Derived.Test.YtpfkiohknpeifaaGreatMcC
namespace Go.Proofs.YtpfkiohknpeifaaGreat
open Go.RowKit
theorem upN_bd {n : Nat} (h : n ≤ 4611686018427387904) : upN n ≤ 2147483649 := by
  have := sqN_bd h
  unfold upN
  split <;> omega
/-- The length of the deviation of a flux. -/
def lenC (C : Cf) (fd fq : Int) : Int := (lenI (devD C fd) (devQ C fq) : Nat)
theorem lenC_bd {C : Cf} (ok : CfOk C) (fd fq : Int) : 0 ≤ lenC C fd fq ∧ lenC C fd fq ≤ 2147483649 := by
  have h1 := devD_bd ok fd
  have h2 := devQ_bd ok fq
  have s1 := sq_bd (x := devD C fd) (by omega)
  have s2 := sq_bd (x := devQ C fq) (by omega)
  have := upN_bd (n := (devD C fd * devD C fd + devQ C fq * devQ C fq).toNat) (by omega)
  unfold lenC lenI
  omega
/-- The flux behind a tick with all switches off. -/
def ofD (C : Cf) (fd fq : Int) : Int := if lenC C fd fq ≤ C.f then C.m else C.m + inX C.dx ((devD C fd * (lenC C fd fq - C.f)).tdiv (lenC C fd fq))
def ofQ (C : Cf) (fd fq : Int) : Int := if lenC C fd fq ≤ C.f then 0 else inX C.qx ((devQ C fq * (lenC C fd fq - C.f)).tdiv (lenC C fd fq))
theorem shrink {x a b : Int} (ha : 0 ≤ a) (hab : a ≤ b) (hb : 0 < b) : (x ≤ 0 → x ≤ (x * a).tdiv b ∧ (x * a).tdiv b ≤ 0) ∧ (0 ≤ x → 0 ≤ (x * a).tdiv b ∧ (x * a).tdiv b ≤ x) := by
  constructor
  · intro hx
    have h1 : x * b ≤ x * a := Int.mul_le_mul_of_nonpos_left hx hab
    have h2 : x * a ≤ 0 * b := by rw [Int.zero_mul]; exact Int.mul_nonpos_of_nonpos_of_nonneg hx ha
    exact tdiv_in hb h1 h2
  · intro hx
    have h1 : x * a ≤ x * b := Int.mul_le_mul_of_nonneg_left hab hx
    have h2 : 0 * b ≤ x * a := by rw [Int.zero_mul]; exact Int.mul_nonneg hx ha
    exact tdiv_in hb h2 h1
theorem inX_shrink {X Y : List Int} (h : McOk X Y) {x a b : Int} (h1 : g X 0 ≤ x) (h2 : x ≤ g X (X.length - 1)) (ha : 0 ≤ a) (hab : a ≤ b) (hb : 0 < b) : inX X ((x * a).tdiv b) = (x * a).tdiv b := by
  have e := mc_ends h
  obtain ⟨s1, s2⟩ := shrink (x := x) ha hab hb
  rcases Int.le_total x 0 with hx | hx
  · have := s1 hx; exact inX_same (by omega) (by omega)
  · have := s2 hx; exact inX_same (by omega) (by omega)
theorem zero_state {C : Cf} (ok : CfOk C) : C.m + inX C.dx 0 = C.m ∧ inX C.qx 0 = 0 := by
  have e1 := mc_ends ok.d
  have e2 := mc_ends ok.q
  rw [inX_same (X := C.dx) (x := 0) (by omega) (by omega), inX_same (X := C.qx) (x := 0) (by omega) (by omega)]
  omega
set_option maxRecDepth 100000 in
set_option maxHeartbeats 3200000 in
theorem offTM_bad (C : Cf) (A1 A2 A3 A4 : Option Addr) (n1 n2 n3 n4 c1 c2 c3 c4 : Nat) (fd fq : Int) (w : World) (L : Ly w w.heap.size C A1 A2 A3 A4 n1 n2 n3 n4) (hc : cfCode C ≠ 0) :
    Calls Tryz.prog 91 #[.agg #[.int .i64 C.r, .int .i64 C.m, .slice A1 n1 c1, .slice A2 n2 c2, .slice A3 n3 c3, .slice A4 n4 c4, .int .i64 C.p, .int .i64 C.s, .int .i64 C.f], .agg #[.int .i64 fd, .int .i64 fq]] w fun e w' => e = .returned (.tuple #[.agg #[.int .i64 0, .int .i64 0], errV (cfCode C)]) ∧ Below w.heap.size w w' := by
  have HB0 := (((Below.refl w.heap.size w).alloc (Nat.le_refl _) (.cells #[.int .i64 C.r, .int .i64 C.m, .slice A1 n1 c1, .slice A2 n2 c2, .slice A3 n3 c3, .slice A4 n4 c4, .int .i64 C.p, .int .i64 C.s, .int .i64 C.f] 26)).alloc (by simp) (.cells #[.int .i64 fd, .int .i64 fq] 41)).alloc (by simp <;> omega) (.cells #[.int .i64 0, .int .i64 0] 41)
  have L0 := (((L).new (.cells #[.int .i64 C.r, .int .i64 C.m, .slice A1 n1 c1, .slice A2 n2 c2, .slice A3 n3 c3, .slice A4 n4 c4, .int .i64 C.p, .int .i64 C.s, .int .i64 C.f] 26)).new (.cells #[.int .i64 fd, .int .i64 fq] 41)).new (.cells #[.int .i64 0, .int .i64 0] 41)
  have gc_0 := (((Blk.new w 26 #[.int .i64 C.r, .int .i64 C.m, .slice A1 n1 c1, .slice A2 n2 c2, .slice A3 n3 c3, .slice A4 n4 c4, .int .i64 C.p, .int .i64 C.s, .int .i64 C.f]).alloc (.cells #[.int .i64 fd, .int .i64 fq] 41)).alloc (.cells #[.int .i64 0, .int .i64 0] 41))
  have gs_0 := ((Blk.new' (w := (w).alloc (.cells #[.int .i64 C.r, .int .i64 C.m, .slice A1 n1 c1, .slice A2 n2 c2, .slice A3 n3 c3, .slice A4 n4 c4, .int .i64 C.p, .int .i64 C.s, .int .i64 C.f] 26)) (t := 41) (cs := #[.int .i64 fd, .int .i64 fq]) (g := w.heap.size + 1) (by simp)).alloc (.cells #[.int .i64 0, .int .i64 0] 41))
  have gz_0 := (Blk.new' (w := ((w).alloc (.cells #[.int .i64 C.r, .int .i64 C.m, .slice A1 n1 c1, .slice A2 n2 c2, .slice A3 n3 c3, .slice A4 n4 c4, .int .i64 C.p, .int .i64 C.s, .int .i64 C.f] 26)).alloc (.cells #[.int .i64 fd, .int .i64 fq] 41)) (t := 41) (cs := #[.int .i64 0, .int .i64 0]) (g := w.heap.size + 1 + 1) (by simp))
  obtain ⟨cd, hcd⟩ : ∃ x, cfCode C = x := ⟨_, rfl⟩
  rw [hcd] at hc ⊢
  rw [errV_ne hc]
  have hck := fun (W : World) (h : Ly W W.heap.size C A1 A2 A3 A4 n1 n2 n3 n4) => chkM C A1 A2 A3 A4 n1 n2 n3 n4 c1 c2 c3 c4 W h
  simp only [hcd, errV_ne hc] at hck
  have HCK := hide hck
  clear hck hcd
  go_enter Tryz.func91, Tryz.ntmps91
  go_wp2_with fail
  with_reducible refine ((unhide HCK) _ L0).mono ?_
  rintro e w1 ⟨rfl, hb1⟩
  have HB1 := HB0.trans (hb1.mono HB0.size)
  have gc_1 := gc_0.below hb1 gc_0.lt
  have lgc_1 := gc_1.lt
  have gs_1 := gs_0.below hb1 gs_0.lt
  have lgs_1 := gs_1.lt
  have gz_1 := gz_0.below hb1 gz_0.lt
  have lgz_1 := gz_1.lt
  have L1 := L0.to hb1
  obtain ⟨gcc0, gcc1, gcc2, gcc3, gcc4, gcc5, gcc6, gcc7, gcc8⟩ := gc_1.c9
  obtain ⟨gsc0, gsc1⟩ := gs_1.c2
  obtain ⟨gzc0, gzc1⟩ := gz_1.c2
  have f0 := gz_1.frozen 0
  have f1 := gz_1.frozen 1
  go_wp2
  refine bodyPost_ret (ret_cell_tmp rfl rfl (load_ms ((gz_1.set_ 0 _).set_ 1 _))) rfl ⟨rfl, ?_⟩
  exact (HB1.setCell (by simp; try omega) _).setCell (by simp; try omega) _
set_option maxRecDepth 100000 in
set_option maxHeartbeats 3200000 in
theorem offTM_le (C : Cf) (a1 a2 a3 a4 : Addr) (n k c1 c2 c3 c4 : Nat) (fd fq : Int) (w : World) (L : Ly w w.heap.size C (some a1) (some a2) (some a3) (some a4) n n k k) (hc : cfCode C = 0) (hle : lenC C fd fq ≤ C.f) :
    Calls Tryz.prog 91 #[.agg #[.int .i64 C.r, .int .i64 C.m, .slice (some a1) n c1, .slice (some a2) n c2, .slice (some a3) k c3, .slice (some a4) k c4, .int .i64 C.p, .int .i64 C.s, .int .i64 C.f], .agg #[.int .i64 fd, .int .i64 fq]] w fun e w' => e = .returned (.tuple #[.agg #[.int .i64 C.m, .int .i64 0], .nilIface]) ∧ Below w.heap.size w w' := by
  have HB0 := (((Below.refl w.heap.size w).alloc (Nat.le_refl _) (.cells #[.int .i64 C.r, .int .i64 C.m, .slice (some a1) n c1, .slice (some a2) n c2, .slice (some a3) k c3, .slice (some a4) k c4, .int .i64 C.p, .int .i64 C.s, .int .i64 C.f] 26)).alloc (by simp) (.cells #[.int .i64 fd, .int .i64 fq] 41)).alloc (by simp <;> omega) (.cells #[.int .i64 0, .int .i64 0] 41)
  have L0 := (((L).new (.cells #[.int .i64 C.r, .int .i64 C.m, .slice (some a1) n c1, .slice (some a2) n c2, .slice (some a3) k c3, .slice (some a4) k c4, .int .i64 C.p, .int .i64 C.s, .int .i64 C.f] 26)).new (.cells #[.int .i64 fd, .int .i64 fq] 41)).new (.cells #[.int .i64 0, .int .i64 0] 41)
  have gc_0 := (((Blk.new w 26 #[.int .i64 C.r, .int .i64 C.m, .slice (some a1) n c1, .slice (some a2) n c2, .slice (some a3) k c3, .slice (some a4) k c4, .int .i64 C.p, .int .i64 C.s, .int .i64 C.f]).alloc (.cells #[.int .i64 fd, .int .i64 fq] 41)).alloc (.cells #[.int .i64 0, .int .i64 0] 41))
  have gs_0 := ((Blk.new' (w := (w).alloc (.cells #[.int .i64 C.r, .int .i64 C.m, .slice (some a1) n c1, .slice (some a2) n c2, .slice (some a3) k c3, .slice (some a4) k c4, .int .i64 C.p, .int .i64 C.s, .int .i64 C.f] 26)) (t := 41) (cs := #[.int .i64 fd, .int .i64 fq]) (g := w.heap.size + 1) (by simp)).alloc (.cells #[.int .i64 0, .int .i64 0] 41))
  have gz_0 := (Blk.new' (w := ((w).alloc (.cells #[.int .i64 C.r, .int .i64 C.m, .slice (some a1) n c1, .slice (some a2) n c2, .slice (some a3) k c3, .slice (some a4) k c4, .int .i64 C.p, .int .i64 C.s, .int .i64 C.f] 26)).alloc (.cells #[.int .i64 fd, .int .i64 fq] 41)) (t := 41) (cs := #[.int .i64 0, .int .i64 0]) (g := w.heap.size + 1 + 1) (by simp))
  have ok := cf_ok hc
  have bd := devD_bd ok fd
  have bq := devQ_bd ok fq
  have bl := lenC_bd ok fd fq
  have bf := ok.f
  have hll : ((lenI (devD C fd) (devQ C fq) : Nat) : Int) = lenC C fd fq := rfl
  have hst := fun (W : World) (h : Ly W W.heap.size C (some a1) (some a2) (some a3) (some a4) n n k k) => stateM C a1 a2 a3 a4 n k c1 c2 c3 c4 0 0 W h ok
  simp only [(zero_state ok).1, (zero_state ok).2] at hst
  have hck := fun (W : World) (h : Ly W W.heap.size C (some a1) (some a2) (some a3) (some a4) n n k k) => chkM C (some a1) (some a2) (some a3) (some a4) n n k k c1 c2 c3 c4 W h
  simp only [hc, errV_zero] at hck
  have hof := fun (W : World) (h : Ly W W.heap.size C (some a1) (some a2) (some a3) (some a4) n n k k) => offM C a1 a2 a3 a4 n k c1 c2 c3 c4 fd fq W h ok
  have hab := fun W => aboveM (devD C fd) (devQ C fq) (by omega) (by omega) W
  simp only [hll] at hab
  obtain ⟨D, hD⟩ : ∃ x, devD C fd = x := ⟨_, rfl⟩
  obtain ⟨Q, hQ⟩ : ∃ x, devQ C fq = x := ⟨_, rfl⟩
  obtain ⟨M, hM⟩ : ∃ x, lenC C fd fq = x := ⟨_, rfl⟩
  clear hll
  simp only [hD, hQ] at hof
  simp only [hD, hQ, hM] at hab
  rw [hM] at bl hle
  rw [hD] at bd
  rw [hQ] at bq
  have HCK := hide hck
  have HOF := hide hof
  have HAB := hide hab
  have HST := hide hst
  clear hck hof hab hst hD hQ hM ok hc
  go_enter Tryz.func91, Tryz.ntmps91
  go_wp2_with fail
  with_reducible refine ((unhide HCK) _ L0).mono ?_
  rintro e w1 ⟨rfl, hb1⟩
  have HB1 := HB0.trans (hb1.mono HB0.size)
  have gc_1 := gc_0.below hb1 gc_0.lt
  have lgc_1 := gc_1.lt
  have gs_1 := gs_0.below hb1 gs_0.lt
  have lgs_1 := gs_1.lt
  have gz_1 := gz_0.below hb1 gz_0.lt
  have lgz_1 := gz_1.lt
  have L1 := L0.to hb1
  obtain ⟨gcc0, gcc1, gcc2, gcc3, gcc4, gcc5, gcc6, gcc7, gcc8⟩ := gc_1.c9
  obtain ⟨gsc0, gsc1⟩ := gs_1.c2
  obtain ⟨gzc0, gzc1⟩ := gz_1.c2
  go_wp2_with fail
  with_reducible refine ((unhide HOF) _ L1).mono ?_
  rintro e w2 ⟨rfl, hb2⟩
  have HB2 := HB1.trans (hb2.mono HB1.size)
  have gc_2 := gc_1.below hb2 gc_1.lt
  have lgc_2 := gc_2.lt
  have gs_2 := gs_1.below hb2 gs_1.lt
  have lgs_2 := gs_2.lt
  have gz_2 := gz_1.below hb2 gz_1.lt
  have lgz_2 := gz_2.lt
  have L2 := L1.to hb2
  clear gcc0 gcc1 gcc2 gcc3 gcc4 gcc5 gcc6 gcc7 gcc8 gsc0 gsc1 gzc0 gzc1
  obtain ⟨gcc0, gcc1, gcc2, gcc3, gcc4, gcc5, gcc6, gcc7, gcc8⟩ := gc_2.c9
  obtain ⟨gsc0, gsc1⟩ := gs_2.c2
  obtain ⟨gzc0, gzc1⟩ := gz_2.c2
  go_wp2_with fail
  with_reducible refine ((unhide HAB) _).mono ?_
  rintro e w3 ⟨rfl, hb3⟩
  have HB3 := HB2.trans (hb3.mono HB2.size)
  have gc_3 := gc_2.below hb3 gc_2.lt
  have lgc_3 := gc_3.lt
  have gs_3 := gs_2.below hb3 gs_2.lt
  have lgs_3 := gs_3.lt
  have gz_3 := gz_2.below hb3 gz_2.lt
  have lgz_3 := gz_3.lt
  have L3 := L2.to hb3
  clear gcc0 gcc1 gcc2 gcc3 gcc4 gcc5 gcc6 gcc7 gcc8 gsc0 gsc1 gzc0 gzc1
  obtain ⟨gcc0, gcc1, gcc2, gcc3, gcc4, gcc5, gcc6, gcc7, gcc8⟩ := gc_3.c9
  obtain ⟨gsc0, gsc1⟩ := gs_3.c2
  obtain ⟨gzc0, gzc1⟩ := gz_3.c2
  go_wp2_with fail
  with_reducible refine ((unhide HST) _ L3).mono ?_
  rintro e w4 ⟨rfl, hb4⟩
  have HB4 := HB3.trans (hb4.mono HB3.size)
  have gc_4 := gc_3.below hb4 gc_3.lt
  have lgc_4 := gc_4.lt
  have gs_4 := gs_3.below hb4 gs_3.lt
  have lgs_4 := gs_4.lt
  have gz_4 := gz_3.below hb4 gz_3.lt
  have lgz_4 := gz_4.lt
  have L4 := L3.to hb4
  clear gcc0 gcc1 gcc2 gcc3 gcc4 gcc5 gcc6 gcc7 gcc8 gsc0 gsc1 gzc0 gzc1
  obtain ⟨gcc0, gcc1, gcc2, gcc3, gcc4, gcc5, gcc6, gcc7, gcc8⟩ := gc_4.c9
  obtain ⟨gsc0, gsc1⟩ := gs_4.c2
  obtain ⟨gzc0, gzc1⟩ := gz_4.c2
  have f0 := gz_4.frozen 0
  have f1 := gz_4.frozen 1
  go_wp2
  refine bodyPost_ret (ret_cell_tmp rfl rfl (load_ms ((gz_4.set_ 0 _).set_ 1 _))) rfl ⟨rfl, ?_⟩
  exact (HB4.setCell (by simp; try omega) _).setCell (by simp; try omega) _
set_option maxRecDepth 100000 in
set_option maxHeartbeats 3200000 in
theorem offTM_gt (C : Cf) (a1 a2 a3 a4 : Addr) (n k c1 c2 c3 c4 : Nat) (fd fq : Int) (w : World) (L : Ly w w.heap.size C (some a1) (some a2) (some a3) (some a4) n n k k) (hc : cfCode C = 0) (hle : ¬ lenC C fd fq ≤ C.f) :
    Calls Tryz.prog 91 #[.agg #[.int .i64 C.r, .int .i64 C.m, .slice (some a1) n c1, .slice (some a2) n c2, .slice (some a3) k c3, .slice (some a4) k c4, .int .i64 C.p, .int .i64 C.s, .int .i64 C.f], .agg #[.int .i64 fd, .int .i64 fq]] w fun e w' => e = .returned (.tuple #[.agg #[.int .i64 (C.m + inX C.dx ((devD C fd * (lenC C fd fq - C.f)).tdiv (lenC C fd fq))), .int .i64 (inX C.qx ((devQ C fq * (lenC C fd fq - C.f)).tdiv (lenC C fd fq)))], .nilIface]) ∧ Below w.heap.size w w' := by
  have HB0 := (((Below.refl w.heap.size w).alloc (Nat.le_refl _) (.cells #[.int .i64 C.r, .int .i64 C.m, .slice (some a1) n c1, .slice (some a2) n c2, .slice (some a3) k c3, .slice (some a4) k c4, .int .i64 C.p, .int .i64 C.s, .int .i64 C.f] 26)).alloc (by simp) (.cells #[.int .i64 fd, .int .i64 fq] 41)).alloc (by simp <;> omega) (.cells #[.int .i64 0, .int .i64 0] 41)
  have L0 := (((L).new (.cells #[.int .i64 C.r, .int .i64 C.m, .slice (some a1) n c1, .slice (some a2) n c2, .slice (some a3) k c3, .slice (some a4) k c4, .int .i64 C.p, .int .i64 C.s, .int .i64 C.f] 26)).new (.cells #[.int .i64 fd, .int .i64 fq] 41)).new (.cells #[.int .i64 0, .int .i64 0] 41)
  have gc_0 := (((Blk.new w 26 #[.int .i64 C.r, .int .i64 C.m, .slice (some a1) n c1, .slice (some a2) n c2, .slice (some a3) k c3, .slice (some a4) k c4, .int .i64 C.p, .int .i64 C.s, .int .i64 C.f]).alloc (.cells #[.int .i64 fd, .int .i64 fq] 41)).alloc (.cells #[.int .i64 0, .int .i64 0] 41))
  have gs_0 := ((Blk.new' (w := (w).alloc (.cells #[.int .i64 C.r, .int .i64 C.m, .slice (some a1) n c1, .slice (some a2) n c2, .slice (some a3) k c3, .slice (some a4) k c4, .int .i64 C.p, .int .i64 C.s, .int .i64 C.f] 26)) (t := 41) (cs := #[.int .i64 fd, .int .i64 fq]) (g := w.heap.size + 1) (by simp)).alloc (.cells #[.int .i64 0, .int .i64 0] 41))
  have gz_0 := (Blk.new' (w := ((w).alloc (.cells #[.int .i64 C.r, .int .i64 C.m, .slice (some a1) n c1, .slice (some a2) n c2, .slice (some a3) k c3, .slice (some a4) k c4, .int .i64 C.p, .int .i64 C.s, .int .i64 C.f] 26)).alloc (.cells #[.int .i64 fd, .int .i64 fq] 41)) (t := 41) (cs := #[.int .i64 0, .int .i64 0]) (g := w.heap.size + 1 + 1) (by simp))
  have ok := cf_ok hc
  have bd := devD_bd ok fd
  have bq := devQ_bd ok fq
  have bl := lenC_bd ok fd fq
  have bf := ok.f
  have hll : ((lenI (devD C fd) (devQ C fq) : Nat) : Int) = lenC C fd fq := rfl
  have hst := fun (W : World) (h : Ly W W.heap.size C (some a1) (some a2) (some a3) (some a4) n n k k) => stateM C a1 a2 a3 a4 n k c1 c2 c3 c4 ((devD C fd * (lenC C fd fq - C.f)).tdiv (lenC C fd fq)) ((devQ C fq * (lenC C fd fq - C.f)).tdiv (lenC C fd fq)) W h ok
  have hck := fun (W : World) (h : Ly W W.heap.size C (some a1) (some a2) (some a3) (some a4) n n k k) => chkM C (some a1) (some a2) (some a3) (some a4) n n k k c1 c2 c3 c4 W h
  simp only [hc, errV_zero] at hck
  have hof := fun (W : World) (h : Ly W W.heap.size C (some a1) (some a2) (some a3) (some a4) n n k k) => offM C a1 a2 a3 a4 n k c1 c2 c3 c4 fd fq W h ok
  have hab := fun W => aboveM (devD C fd) (devQ C fq) (by omega) (by omega) W
  simp only [hll] at hab
  obtain ⟨X1, hX1⟩ : ∃ x, C.m + inX C.dx ((devD C fd * (lenC C fd fq - C.f)).tdiv (lenC C fd fq)) = x := ⟨_, rfl⟩
  obtain ⟨X2, hX2⟩ : ∃ x, inX C.qx ((devQ C fq * (lenC C fd fq - C.f)).tdiv (lenC C fd fq)) = x := ⟨_, rfl⟩
  simp only [hX1, hX2] at hst ⊢
  clear hX1 hX2
  obtain ⟨D, hD⟩ : ∃ x, devD C fd = x := ⟨_, rfl⟩
  obtain ⟨Q, hQ⟩ : ∃ x, devQ C fq = x := ⟨_, rfl⟩
  obtain ⟨M, hM⟩ : ∃ x, lenC C fd fq = x := ⟨_, rfl⟩
  clear hll
  simp only [hD, hQ] at hof
  simp only [hD, hQ, hM] at hab
  rw [hM] at bl hle
  rw [hD] at bd
  rw [hQ] at bq
  simp only [hD, hQ, hM] at hst
  have m1 := mul_bd (a := D) (b := M - C.f) (A := 268435456) (B := 2147483649) (by omega) (by omega)
  have m2 := mul_bd (a := Q) (b := M - C.f) (A := 268435456) (B := 2147483649) (by omega) (by omega)
  have e1 : IntKind.i64.wrap (M - C.f) = M - C.f := IntWalk.i64_in _ (by omega)
  have e2 : IntKind.i64.wrap (D * (M - C.f)) = D * (M - C.f) := IntWalk.i64_in _ (by omega)
  have e3 : IntKind.i64.wrap (Q * (M - C.f)) = Q * (M - C.f) := IntWalk.i64_in _ (by omega)
  have t1 := shrink (x := D) (a := M - C.f) (b := M) (by omega) (by omega) (by omega)
  have t2 := shrink (x := Q) (a := M - C.f) (b := M) (by omega) (by omega) (by omega)
  obtain ⟨R1, hR1⟩ : ∃ x, (D * (M - C.f)).tdiv M = x := ⟨_, rfl⟩
  obtain ⟨R2, hR2⟩ : ∃ x, (Q * (M - C.f)).tdiv M = x := ⟨_, rfl⟩
  rw [hR1] at t1
  rw [hR2] at t2
  simp only [hR1, hR2] at hst
  have b1 : -268435456 ≤ R1 ∧ R1 ≤ 268435456 := by omega
  have b2 : -268435456 ≤ R2 ∧ R2 ≤ 268435456 := by omega
  have r1 : IntKind.i64.wrap R1 = R1 := IntWalk.i64_in _ (by omega)
  have r2 : IntKind.i64.wrap R2 = R2 := IntWalk.i64_in _ (by omega)
  have w1 : wrap64 R1 = R1 := by unfold wrap64; omega
  have w2 : wrap64 R2 = R2 := by unfold wrap64; omega
  have n1 : ¬ M = 0 := by omega
  have n2 : ¬ M = -1 := by omega
  clear m1 m2 t1 t2
  have HCK := hide hck
  have HOF := hide hof
  have HAB := hide hab
  have HST := hide hst
  clear hck hof hab hst hD hQ hM ok hc
  go_enter Tryz.func91, Tryz.ntmps91
  go_wp2_with fail
  with_reducible refine ((unhide HCK) _ L0).mono ?_
  rintro e w1 ⟨rfl, hb1⟩
  have HB1 := HB0.trans (hb1.mono HB0.size)
  have gc_1 := gc_0.below hb1 gc_0.lt
  have lgc_1 := gc_1.lt
  have gs_1 := gs_0.below hb1 gs_0.lt
  have lgs_1 := gs_1.lt
  have gz_1 := gz_0.below hb1 gz_0.lt
  have lgz_1 := gz_1.lt
  have L1 := L0.to hb1
  obtain ⟨gcc0, gcc1, gcc2, gcc3, gcc4, gcc5, gcc6, gcc7, gcc8⟩ := gc_1.c9
  obtain ⟨gsc0, gsc1⟩ := gs_1.c2
  obtain ⟨gzc0, gzc1⟩ := gz_1.c2
  go_wp2_with fail
  with_reducible refine ((unhide HOF) _ L1).mono ?_
  rintro e w2 ⟨rfl, hb2⟩
  have HB2 := HB1.trans (hb2.mono HB1.size)
  have gc_2 := gc_1.below hb2 gc_1.lt
  have lgc_2 := gc_2.lt
  have gs_2 := gs_1.below hb2 gs_1.lt
  have lgs_2 := gs_2.lt
  have gz_2 := gz_1.below hb2 gz_1.lt
  have lgz_2 := gz_2.lt
  have L2 := L1.to hb2
  clear gcc0 gcc1 gcc2 gcc3 gcc4 gcc5 gcc6 gcc7 gcc8 gsc0 gsc1 gzc0 gzc1
  obtain ⟨gcc0, gcc1, gcc2, gcc3, gcc4, gcc5, gcc6, gcc7, gcc8⟩ := gc_2.c9
  obtain ⟨gsc0, gsc1⟩ := gs_2.c2
  obtain ⟨gzc0, gzc1⟩ := gz_2.c2
  go_wp2_with fail
  with_reducible refine ((unhide HAB) _).mono ?_
  rintro e w3 ⟨rfl, hb3⟩
  have HB3 := HB2.trans (hb3.mono HB2.size)
  have gc_3 := gc_2.below hb3 gc_2.lt
  have lgc_3 := gc_3.lt
  have gs_3 := gs_2.below hb3 gs_2.lt
  have lgs_3 := gs_3.lt
  have gz_3 := gz_2.below hb3 gz_2.lt
  have lgz_3 := gz_3.lt
  have L3 := L2.to hb3
  clear gcc0 gcc1 gcc2 gcc3 gcc4 gcc5 gcc6 gcc7 gcc8 gsc0 gsc1 gzc0 gzc1
  obtain ⟨gcc0, gcc1, gcc2, gcc3, gcc4, gcc5, gcc6, gcc7, gcc8⟩ := gc_3.c9
  obtain ⟨gsc0, gsc1⟩ := gs_3.c2
  obtain ⟨gzc0, gzc1⟩ := gz_3.c2
  go_wp2
  refine wp_region_still_tail 17 (by kernel_rfl) (by kernel_rfl) ?_
  simp only [List.take_succ_cons, List.take_zero, List.drop_succ_cons, List.drop_zero]
  repeat still_step
  refine wpStill_nil ?_
  change wpList _ _ _ _ _ w3.drew
  go_wp2_with fail
  with_reducible refine ((unhide HST) _ L3.drew).mono ?_
  rintro e w4 ⟨rfl, hb4⟩
  have gz_4 := gz_3.drew.below hb4 gz_3.lt
  have HB4 := HB3.drew.trans (hb4.mono HB3.size)
  have lgz_4 := gz_4.lt
  have z0 := gz_4.c2.1
  have z1 := gz_4.c2.2
  have f0 := gz_4.frozen 0
  have f1 := gz_4.frozen 1
  go_wp2
  refine bodyPost_ret (ret_cell_tmp rfl rfl (load_ms ((gz_4.set_ 0 _).set_ 1 _))) rfl ⟨rfl, ?_⟩
  exact (HB4.setCell (by simp; try omega) _).setCell (by simp; try omega) _
theorem offTM (C : Cf) (a1 a2 a3 a4 : Addr) (n k c1 c2 c3 c4 : Nat) (fd fq : Int) (w : World) (L : Ly w w.heap.size C (some a1) (some a2) (some a3) (some a4) n n k k) (hc : cfCode C = 0) :
    Calls Tryz.prog 91 #[.agg #[.int .i64 C.r, .int .i64 C.m, .slice (some a1) n c1, .slice (some a2) n c2, .slice (some a3) k c3, .slice (some a4) k c4, .int .i64 C.p, .int .i64 C.s, .int .i64 C.f], .agg #[.int .i64 fd, .int .i64 fq]] w fun e w' => e = .returned (.tuple #[.agg #[.int .i64 (ofD C fd fq), .int .i64 (ofQ C fd fq)], .nilIface]) ∧ Below w.heap.size w w' := by
  by_cases h : lenC C fd fq ≤ C.f
  · unfold ofD ofQ
    rw [if_pos h, if_pos h]
    exact offTM_le C a1 a2 a3 a4 n k c1 c2 c3 c4 fd fq w L hc h
  · unfold ofD ofQ
    rw [if_neg h, if_neg h]
    exact offTM_gt C a1 a2 a3 a4 n k c1 c2 c3 c4 fd fq w L hc h
set_option maxRecDepth 100000 in
set_option maxHeartbeats 3200000 in
theorem lengthR (C : Cf) (a1 a2 a3 a4 : Addr) (n k c1 c2 c3 c4 : Nat) (fd fq : Int) (w : World) (L : Ly w w.heap.size C (some a1) (some a2) (some a3) (some a4) n n k k) (ok : CfOk C) :
    Calls Tryz.prog 111 #[.agg #[.int .i64 C.r, .int .i64 C.m, .slice (some a1) n c1, .slice (some a2) n c2, .slice (some a3) k c3, .slice (some a4) k c4, .int .i64 C.p, .int .i64 C.s, .int .i64 C.f], .agg #[.int .i64 fd, .int .i64 fq]] w fun e w' => e = .returned (.int .i64 (lenC C fd fq)) ∧ Below w.heap.size w w' := by
  have HB0 := ((Below.refl w.heap.size w).alloc (Nat.le_refl _) (.cells #[.int .i64 C.r, .int .i64 C.m, .slice (some a1) n c1, .slice (some a2) n c2, .slice (some a3) k c3, .slice (some a4) k c4, .int .i64 C.p, .int .i64 C.s, .int .i64 C.f] 26)).alloc (by simp) (.cells #[.int .i64 fd, .int .i64 fq] 41)
  have L0 := ((L).new (.cells #[.int .i64 C.r, .int .i64 C.m, .slice (some a1) n c1, .slice (some a2) n c2, .slice (some a3) k c3, .slice (some a4) k c4, .int .i64 C.p, .int .i64 C.s, .int .i64 C.f] 26)).new (.cells #[.int .i64 fd, .int .i64 fq] 41)
  have gc_0 := ((Blk.new w 26 #[.int .i64 C.r, .int .i64 C.m, .slice (some a1) n c1, .slice (some a2) n c2, .slice (some a3) k c3, .slice (some a4) k c4, .int .i64 C.p, .int .i64 C.s, .int .i64 C.f]).alloc (.cells #[.int .i64 fd, .int .i64 fq] 41))
  have gs_0 := (Blk.new' (w := (w).alloc (.cells #[.int .i64 C.r, .int .i64 C.m, .slice (some a1) n c1, .slice (some a2) n c2, .slice (some a3) k c3, .slice (some a4) k c4, .int .i64 C.p, .int .i64 C.s, .int .i64 C.f] 26)) (t := 41) (cs := #[.int .i64 fd, .int .i64 fq]) (g := w.heap.size + 1) (by simp))
  have bd := devD_bd ok fd
  have bq := devQ_bd ok fq
  have bl := lenC_bd ok fd fq
  have bf := ok.f
  have hll : ((lenI (devD C fd) (devQ C fq) : Nat) : Int) = lenC C fd fq := rfl
  have bm := ok.m
  have hno := fun (W : World) (h : Ly W W.heap.size C (some a1) (some a2) (some a3) (some a4) n n k k) => normalR C a1 a2 a3 a4 n k c1 c2 c3 c4 fd fq W h ok
  have hab := fun W => aboveR (devD C fd) (devQ C fq) (by omega) (by omega) W
  simp only [hll] at hab
  obtain ⟨D, hD⟩ : ∃ x, devD C fd = x := ⟨_, rfl⟩
  obtain ⟨Q, hQ⟩ : ∃ x, devQ C fq = x := ⟨_, rfl⟩
  obtain ⟨M, hM⟩ : ∃ x, lenC C fd fq = x := ⟨_, rfl⟩
  clear hll
  simp only [hD, hQ] at hno
  simp only [hD, hQ, hM] at hab
  rw [hD] at bd
  rw [hM]
  have e0 : C.m + D - C.m = D := by omega
  have HNO := hide hno
  have HAB := hide hab
  clear hno hab hD hQ hM ok
  go_enter Tryz.func111, Tryz.ntmps111
  go_wp2_with fail
  with_reducible refine ((unhide HNO) _ L0).mono ?_
  rintro e w1 ⟨rfl, hb1⟩
  have HB1 := HB0.trans (hb1.mono HB0.size)
  have gc_1 := gc_0.below hb1 gc_0.lt
  have lgc_1 := gc_1.lt
  have gs_1 := gs_0.below hb1 gs_0.lt
  have lgs_1 := gs_1.lt
  have L1 := L0.to hb1
  obtain ⟨gcc0, gcc1, gcc2, gcc3, gcc4, gcc5, gcc6, gcc7, gcc8⟩ := gc_1.c9
  obtain ⟨gsc0, gsc1⟩ := gs_1.c2
  have fr0 := gs_1.frozen 0
  have fr1 := gs_1.frozen 1
  go_wp2_with fail
  obtain ⟨w2, hw⟩ : ∃ W, ((w1.setCell ⟨w.heap.size + 1, 0, none⟩ (.int .i64 (C.m + D))).setCell ⟨w.heap.size + 1, 1, none⟩ (.int .i64 Q)) = W := ⟨_, rfl⟩
  have gc_2 : Blk w2 (w.heap.size) 26 #[.int .i64 C.r, .int .i64 C.m, .slice (some a1) n c1, .slice (some a2) n c2, .slice (some a3) k c3, .slice (some a4) k c4, .int .i64 C.p, .int .i64 C.s, .int .i64 C.f] := by rw [← hw]; exact ((gc_1.far (by simp <;> omega) _).far (by simp <;> omega) _)
  have gs_2 : Blk w2 (w.heap.size + 1) 41 #[.int .i64 (C.m + D), .int .i64 Q] := by rw [← hw]; exact ((gs_1.set_ 0 _).set_ 1 _)
  have HB2 : Below w.heap.size w w2 := by rw [← hw]; exact ((HB1.setCell (by simp <;> omega) _).setCell (by simp <;> omega) _)
  have L2 := (L.below HB2).more HB2.size
  have lgc_2 := gc_2.lt
  have lgs_2 := gs_2.lt
  simp only [hw]
  clear hw
  clear gcc0 gcc1 gcc2 gcc3 gcc4 gcc5 gcc6 gcc7 gcc8 gsc0 gsc1
  obtain ⟨gcc0, gcc1, gcc2, gcc3, gcc4, gcc5, gcc6, gcc7, gcc8⟩ := gc_2.c9
  obtain ⟨gsc0, gsc1⟩ := gs_2.c2
  go_wp2_with fail
  with_reducible refine ((unhide HAB) _).mono ?_
  rintro e w3 ⟨rfl, hb3⟩
  have HB3 := HB2.trans (hb3.mono HB2.size)
  have gc_3 := gc_2.below hb3 gc_2.lt
  have lgc_3 := gc_3.lt
  have gs_3 := gs_2.below hb3 gs_2.lt
  have lgs_3 := gs_3.lt
  have L3 := L2.to hb3
  go_wp2
  go_ret
  exact ⟨rfl, HB3⟩
set_option maxRecDepth 100000 in
set_option maxHeartbeats 3200000 in
theorem offTR_le (C : Cf) (a1 a2 a3 a4 : Addr) (n k c1 c2 c3 c4 : Nat) (fd fq : Int) (w : World) (L : Ly w w.heap.size C (some a1) (some a2) (some a3) (some a4) n n k k) (ok : CfOk C) (hle : lenC C fd fq ≤ C.f) :
    Calls Tryz.prog 56 #[.agg #[.int .i64 C.r, .int .i64 C.m, .slice (some a1) n c1, .slice (some a2) n c2, .slice (some a3) k c3, .slice (some a4) k c4, .int .i64 C.p, .int .i64 C.s, .int .i64 C.f], .agg #[.int .i64 fd, .int .i64 fq]] w fun e w' => e = .returned (.agg #[.int .i64 C.m, .int .i64 0]) ∧ Below w.heap.size w w' := by
  have HB0 := (((Below.refl w.heap.size w).alloc (Nat.le_refl _) (.cells #[.int .i64 C.r, .int .i64 C.m, .slice (some a1) n c1, .slice (some a2) n c2, .slice (some a3) k c3, .slice (some a4) k c4, .int .i64 C.p, .int .i64 C.s, .int .i64 C.f] 26)).alloc (by simp) (.cells #[.int .i64 fd, .int .i64 fq] 41)).alloc (by simp <;> omega) (.cells #[.int .i64 0, .int .i64 0] 41)
  have L0 := (((L).new (.cells #[.int .i64 C.r, .int .i64 C.m, .slice (some a1) n c1, .slice (some a2) n c2, .slice (some a3) k c3, .slice (some a4) k c4, .int .i64 C.p, .int .i64 C.s, .int .i64 C.f] 26)).new (.cells #[.int .i64 fd, .int .i64 fq] 41)).new (.cells #[.int .i64 0, .int .i64 0] 41)
  have gc_0 := (((Blk.new w 26 #[.int .i64 C.r, .int .i64 C.m, .slice (some a1) n c1, .slice (some a2) n c2, .slice (some a3) k c3, .slice (some a4) k c4, .int .i64 C.p, .int .i64 C.s, .int .i64 C.f]).alloc (.cells #[.int .i64 fd, .int .i64 fq] 41)).alloc (.cells #[.int .i64 0, .int .i64 0] 41))
  have gs_0 := ((Blk.new' (w := (w).alloc (.cells #[.int .i64 C.r, .int .i64 C.m, .slice (some a1) n c1, .slice (some a2) n c2, .slice (some a3) k c3, .slice (some a4) k c4, .int .i64 C.p, .int .i64 C.s, .int .i64 C.f] 26)) (t := 41) (cs := #[.int .i64 fd, .int .i64 fq]) (g := w.heap.size + 1) (by simp)).alloc (.cells #[.int .i64 0, .int .i64 0] 41))
  have gz_0 := (Blk.new' (w := ((w).alloc (.cells #[.int .i64 C.r, .int .i64 C.m, .slice (some a1) n c1, .slice (some a2) n c2, .slice (some a3) k c3, .slice (some a4) k c4, .int .i64 C.p, .int .i64 C.s, .int .i64 C.f] 26)).alloc (.cells #[.int .i64 fd, .int .i64 fq] 41)) (t := 41) (cs := #[.int .i64 0, .int .i64 0]) (g := w.heap.size + 1 + 1) (by simp))
  have bd := devD_bd ok fd
  have bq := devQ_bd ok fq
  have bl := lenC_bd ok fd fq
  have bf := ok.f
  have hll : ((lenI (devD C fd) (devQ C fq) : Nat) : Int) = lenC C fd fq := rfl
  have bm := ok.m
  clear hll
  have hno := fun (W : World) (h : Ly W W.heap.size C (some a1) (some a2) (some a3) (some a4) n n k k) => normalR C a1 a2 a3 a4 n k c1 c2 c3 c4 fd fq W h ok
  have hle2 : lenC C (C.m + devD C fd) (devQ C fq) = lenC C fd fq := by unfold lenC; rw [devD_idem ok, devQ_idem ok]
  have hlg := fun (W : World) (h : Ly W W.heap.size C (some a1) (some a2) (some a3) (some a4) n n k k) => lengthR C a1 a2 a3 a4 n k c1 c2 c3 c4 (C.m + devD C fd) (devQ C fq) W h ok
  simp only [hle2] at hlg
  have hsr := fun (W : World) => startR C a1 a2 a3 a4 n k c1 c2 c3 c4 W
  obtain ⟨D, hD⟩ : ∃ x, devD C fd = x := ⟨_, rfl⟩
  obtain ⟨Q, hQ⟩ : ∃ x, devQ C fq = x := ⟨_, rfl⟩
  obtain ⟨M, hM⟩ : ∃ x, lenC C fd fq = x := ⟨_, rfl⟩
  simp only [hD, hQ] at hno
  simp only [hD, hQ, hM] at hlg
  rw [hM] at bl hle
  rw [hD] at bd
  rw [hQ] at bq
  have e0 : C.m + D - C.m = D := by omega
  have e5 : IntKind.i64.wrap (C.m + D - C.m) = D := by rw [e0]; exact IntWalk.i64_in _ (by omega)
  have HNO := hide hno
  have HLG := hide hlg
  have HSR := hide hsr
  clear hno hlg hsr hD hQ hM ok hle2
  go_enter Tryz.func56, Tryz.ntmps56
  go_wp2_with fail
  with_reducible refine ((unhide HNO) _ L0).mono ?_
  rintro e w1 ⟨rfl, hb1⟩
  have HB1 := HB0.trans (hb1.mono HB0.size)
  have gc_1 := gc_0.below hb1 gc_0.lt
  have lgc_1 := gc_1.lt
  have gs_1 := gs_0.below hb1 gs_0.lt
  have lgs_1 := gs_1.lt
  have gz_1 := gz_0.below hb1 gz_0.lt
  have lgz_1 := gz_1.lt
  have L1 := L0.to hb1
  obtain ⟨gcc0, gcc1, gcc2, gcc3, gcc4, gcc5, gcc6, gcc7, gcc8⟩ := gc_1.c9
  obtain ⟨gsc0, gsc1⟩ := gs_1.c2
  obtain ⟨gzc0, gzc1⟩ := gz_1.c2
  have fr0 := gs_1.frozen 0
  have fr1 := gs_1.frozen 1
  go_wp2_with fail
  obtain ⟨w2, hw⟩ : ∃ W, ((w1.setCell ⟨w.heap.size + 1, 0, none⟩ (.int .i64 (C.m + D))).setCell ⟨w.heap.size + 1, 1, none⟩ (.int .i64 Q)) = W := ⟨_, rfl⟩
  have gc_2 : Blk w2 (w.heap.size) 26 #[.int .i64 C.r, .int .i64 C.m, .slice (some a1) n c1, .slice (some a2) n c2, .slice (some a3) k c3, .slice (some a4) k c4, .int .i64 C.p, .int .i64 C.s, .int .i64 C.f] := by rw [← hw]; exact ((gc_1.far (by simp <;> omega) _).far (by simp <;> omega) _)
  have gs_2 : Blk w2 (w.heap.size + 1) 41 #[.int .i64 (C.m + D), .int .i64 Q] := by rw [← hw]; exact ((gs_1.set_ 0 _).set_ 1 _)
  have gz_2 : Blk w2 (w.heap.size + 1 + 1) 41 #[.int .i64 0, .int .i64 0] := by rw [← hw]; exact ((gz_1.far (by simp <;> omega) _).far (by simp <;> omega) _)
  have HB2 : Below w.heap.size w w2 := by rw [← hw]; exact ((HB1.setCell (by simp <;> omega) _).setCell (by simp <;> omega) _)
  have L2 := (L.below HB2).more HB2.size
  have lgc_2 := gc_2.lt
  have lgs_2 := gs_2.lt
  have lgz_2 := gz_2.lt
  simp only [hw]
  clear hw
  clear gcc0 gcc1 gcc2 gcc3 gcc4 gcc5 gcc6 gcc7 gcc8 gsc0 gsc1 gzc0 gzc1
  obtain ⟨gcc0, gcc1, gcc2, gcc3, gcc4, gcc5, gcc6, gcc7, gcc8⟩ := gc_2.c9
  obtain ⟨gsc0, gsc1⟩ := gs_2.c2
  obtain ⟨gzc0, gzc1⟩ := gz_2.c2
  go_wp2_with fail
  with_reducible refine ((unhide HLG) _ L2).mono ?_
  rintro e w3 ⟨rfl, hb3⟩
  have HB3 := HB2.trans (hb3.mono HB2.size)
  have gc_3 := gc_2.below hb3 gc_2.lt
  have lgc_3 := gc_3.lt
  have gs_3 := gs_2.below hb3 gs_2.lt
  have lgs_3 := gs_3.lt
  have gz_3 := gz_2.below hb3 gz_2.lt
  have lgz_3 := gz_3.lt
  have L3 := L2.to hb3
  clear gcc0 gcc1 gcc2 gcc3 gcc4 gcc5 gcc6 gcc7 gcc8 gsc0 gsc1 gzc0 gzc1
  obtain ⟨gcc0, gcc1, gcc2, gcc3, gcc4, gcc5, gcc6, gcc7, gcc8⟩ := gc_3.c9
  obtain ⟨gsc0, gsc1⟩ := gs_3.c2
  obtain ⟨gzc0, gzc1⟩ := gz_3.c2
  go_wp2_with fail
  with_reducible refine ((unhide HSR) _).mono ?_
  rintro e w4 ⟨rfl, hb4⟩
  have HB4 := HB3.trans (hb4.mono HB3.size)
  have gc_4 := gc_3.below hb4 gc_3.lt
  have lgc_4 := gc_4.lt
  have gs_4 := gs_3.below hb4 gs_3.lt
  have lgs_4 := gs_4.lt
  have gz_4 := gz_3.below hb4 gz_3.lt
  have lgz_4 := gz_4.lt
  have L4 := L3.to hb4
  clear gcc0 gcc1 gcc2 gcc3 gcc4 gcc5 gcc6 gcc7 gcc8 gsc0 gsc1 gzc0 gzc1
  obtain ⟨gcc0, gcc1, gcc2, gcc3, gcc4, gcc5, gcc6, gcc7, gcc8⟩ := gc_4.c9
  obtain ⟨gsc0, gsc1⟩ := gs_4.c2
  obtain ⟨gzc0, gzc1⟩ := gz_4.c2
  have f0 := gz_4.frozen 0
  have f1 := gz_4.frozen 1
  go_wp2
  refine bodyPost_ret (ret_cell rfl rfl (load_ms ((gz_4.set_ 0 _).set_ 1 _))) rfl ⟨rfl, ?_⟩
  exact (HB4.setCell (by simp; try omega) _).setCell (by simp; try omega) _
set_option maxRecDepth 100000 in
set_option maxHeartbeats 3200000 in
theorem offTR_gt (C : Cf) (a1 a2 a3 a4 : Addr) (n k c1 c2 c3 c4 : Nat) (fd fq : Int) (w : World) (L : Ly w w.heap.size C (some a1) (some a2) (some a3) (some a4) n n k k) (ok : CfOk C) (hle : ¬ lenC C fd fq ≤ C.f) :
    Calls Tryz.prog 56 #[.agg #[.int .i64 C.r, .int .i64 C.m, .slice (some a1) n c1, .slice (some a2) n c2, .slice (some a3) k c3, .slice (some a4) k c4, .int .i64 C.p, .int .i64 C.s, .int .i64 C.f], .agg #[.int .i64 fd, .int .i64 fq]] w fun e w' => e = .returned (.agg #[.int .i64 (C.m + (devD C fd * (lenC C fd fq - C.f)).tdiv (lenC C fd fq)), .int .i64 ((devQ C fq * (lenC C fd fq - C.f)).tdiv (lenC C fd fq))]) ∧ Below w.heap.size w w' := by
  have HB0 := (((Below.refl w.heap.size w).alloc (Nat.le_refl _) (.cells #[.int .i64 C.r, .int .i64 C.m, .slice (some a1) n c1, .slice (some a2) n c2, .slice (some a3) k c3, .slice (some a4) k c4, .int .i64 C.p, .int .i64 C.s, .int .i64 C.f] 26)).alloc (by simp) (.cells #[.int .i64 fd, .int .i64 fq] 41)).alloc (by simp <;> omega) (.cells #[.int .i64 0, .int .i64 0] 41)
  have L0 := (((L).new (.cells #[.int .i64 C.r, .int .i64 C.m, .slice (some a1) n c1, .slice (some a2) n c2, .slice (some a3) k c3, .slice (some a4) k c4, .int .i64 C.p, .int .i64 C.s, .int .i64 C.f] 26)).new (.cells #[.int .i64 fd, .int .i64 fq] 41)).new (.cells #[.int .i64 0, .int .i64 0] 41)
  have gc_0 := (((Blk.new w 26 #[.int .i64 C.r, .int .i64 C.m, .slice (some a1) n c1, .slice (some a2) n c2, .slice (some a3) k c3, .slice (some a4) k c4, .int .i64 C.p, .int .i64 C.s, .int .i64 C.f]).alloc (.cells #[.int .i64 fd, .int .i64 fq] 41)).alloc (.cells #[.int .i64 0, .int .i64 0] 41))
  have gs_0 := ((Blk.new' (w := (w).alloc (.cells #[.int .i64 C.r, .int .i64 C.m, .slice (some a1) n c1, .slice (some a2) n c2, .slice (some a3) k c3, .slice (some a4) k c4, .int .i64 C.p, .int .i64 C.s, .int .i64 C.f] 26)) (t := 41) (cs := #[.int .i64 fd, .int .i64 fq]) (g := w.heap.size + 1) (by simp)).alloc (.cells #[.int .i64 0, .int .i64 0] 41))
  have gz_0 := (Blk.new' (w := ((w).alloc (.cells #[.int .i64 C.r, .int .i64 C.m, .slice (some a1) n c1, .slice (some a2) n c2, .slice (some a3) k c3, .slice (some a4) k c4, .int .i64 C.p, .int .i64 C.s, .int .i64 C.f] 26)).alloc (.cells #[.int .i64 fd, .int .i64 fq] 41)) (t := 41) (cs := #[.int .i64 0, .int .i64 0]) (g := w.heap.size + 1 + 1) (by simp))
  have bd := devD_bd ok fd
  have bq := devQ_bd ok fq
  have bl := lenC_bd ok fd fq
  have bf := ok.f
  have hll : ((lenI (devD C fd) (devQ C fq) : Nat) : Int) = lenC C fd fq := rfl
  have bm := ok.m
  clear hll
  have hno := fun (W : World) (h : Ly W W.heap.size C (some a1) (some a2) (some a3) (some a4) n n k k) => normalR C a1 a2 a3 a4 n k c1 c2 c3 c4 fd fq W h ok
  have hle2 : lenC C (C.m + devD C fd) (devQ C fq) = lenC C fd fq := by unfold lenC; rw [devD_idem ok, devQ_idem ok]
  have hlg := fun (W : World) (h : Ly W W.heap.size C (some a1) (some a2) (some a3) (some a4) n n k k) => lengthR C a1 a2 a3 a4 n k c1 c2 c3 c4 (C.m + devD C fd) (devQ C fq) W h ok
  simp only [hle2] at hlg
  have hsr := fun (W : World) => startR C a1 a2 a3 a4 n k c1 c2 c3 c4 W
  obtain ⟨D, hD⟩ : ∃ x, devD C fd = x := ⟨_, rfl⟩
  obtain ⟨Q, hQ⟩ : ∃ x, devQ C fq = x := ⟨_, rfl⟩
  obtain ⟨M, hM⟩ : ∃ x, lenC C fd fq = x := ⟨_, rfl⟩
  simp only [hD, hQ] at hno
  simp only [hD, hQ, hM] at hlg
  rw [hM] at bl hle
  rw [hD] at bd
  rw [hQ] at bq
  have e0 : C.m + D - C.m = D := by omega
  have e5 : IntKind.i64.wrap (C.m + D - C.m) = D := by rw [e0]; exact IntWalk.i64_in _ (by omega)
  rw [hD, hQ, hM]
  have m1 := mul_bd (a := D) (b := M - C.f) (A := 268435456) (B := 2147483649) (by omega) (by omega)
  have m2 := mul_bd (a := Q) (b := M - C.f) (A := 268435456) (B := 2147483649) (by omega) (by omega)
  have e1 : IntKind.i64.wrap (M - C.f) = M - C.f := IntWalk.i64_in _ (by omega)
  have e2 : IntKind.i64.wrap (D * (M - C.f)) = D * (M - C.f) := IntWalk.i64_in _ (by omega)
  have e3 : IntKind.i64.wrap (Q * (M - C.f)) = Q * (M - C.f) := IntWalk.i64_in _ (by omega)
  have t1 := shrink (x := D) (a := M - C.f) (b := M) (by omega) (by omega) (by omega)
  have t2 := shrink (x := Q) (a := M - C.f) (b := M) (by omega) (by omega) (by omega)
  obtain ⟨R1, hR1⟩ : ∃ x, (D * (M - C.f)).tdiv M = x := ⟨_, rfl⟩
  obtain ⟨R2, hR2⟩ : ∃ x, (Q * (M - C.f)).tdiv M = x := ⟨_, rfl⟩
  rw [hR1] at t1
  rw [hR2] at t2
  rw [hR1, hR2]
  have b1 : -268435456 ≤ R1 ∧ R1 ≤ 268435456 := by omega
  have b2 : -268435456 ≤ R2 ∧ R2 ≤ 268435456 := by omega
  have r1 : IntKind.i64.wrap R1 = R1 := IntWalk.i64_in _ (by omega)
  have r2 : IntKind.i64.wrap R2 = R2 := IntWalk.i64_in _ (by omega)
  have r3 : IntKind.i64.wrap (C.m + R1) = C.m + R1 := IntWalk.i64_in _ (by omega)
  have w1 : wrap64 R1 = R1 := by unfold wrap64; omega
  have w2 : wrap64 R2 = R2 := by unfold wrap64; omega
  have n1 : ¬ M = 0 := by omega
  have n2 : ¬ M = -1 := by omega
  clear m1 m2 t1 t2
  have HNO := hide hno
  have HLG := hide hlg
  have HSR := hide hsr
  clear hno hlg hsr hD hQ hM ok hle2
  go_enter Tryz.func56, Tryz.ntmps56
  go_wp2_with fail
  with_reducible refine ((unhide HNO) _ L0).mono ?_
  rintro e w1 ⟨rfl, hb1⟩
  have HB1 := HB0.trans (hb1.mono HB0.size)
  have gc_1 := gc_0.below hb1 gc_0.lt
  have lgc_1 := gc_1.lt
  have gs_1 := gs_0.below hb1 gs_0.lt
  have lgs_1 := gs_1.lt
  have gz_1 := gz_0.below hb1 gz_0.lt
  have lgz_1 := gz_1.lt
  have L1 := L0.to hb1
  obtain ⟨gcc0, gcc1, gcc2, gcc3, gcc4, gcc5, gcc6, gcc7, gcc8⟩ := gc_1.c9
  obtain ⟨gsc0, gsc1⟩ := gs_1.c2
  obtain ⟨gzc0, gzc1⟩ := gz_1.c2
  have fr0 := gs_1.frozen 0
  have fr1 := gs_1.frozen 1
  go_wp2_with fail
  obtain ⟨w2, hw⟩ : ∃ W, ((w1.setCell ⟨w.heap.size + 1, 0, none⟩ (.int .i64 (C.m + D))).setCell ⟨w.heap.size + 1, 1, none⟩ (.int .i64 Q)) = W := ⟨_, rfl⟩
  have gc_2 : Blk w2 (w.heap.size) 26 #[.int .i64 C.r, .int .i64 C.m, .slice (some a1) n c1, .slice (some a2) n c2, .slice (some a3) k c3, .slice (some a4) k c4, .int .i64 C.p, .int .i64 C.s, .int .i64 C.f] := by rw [← hw]; exact ((gc_1.far (by simp <;> omega) _).far (by simp <;> omega) _)
  have gs_2 : Blk w2 (w.heap.size + 1) 41 #[.int .i64 (C.m + D), .int .i64 Q] := by rw [← hw]; exact ((gs_1.set_ 0 _).set_ 1 _)
  have gz_2 : Blk w2 (w.heap.size + 1 + 1) 41 #[.int .i64 0, .int .i64 0] := by rw [← hw]; exact ((gz_1.far (by simp <;> omega) _).far (by simp <;> omega) _)
  have HB2 : Below w.heap.size w w2 := by rw [← hw]; exact ((HB1.setCell (by simp <;> omega) _).setCell (by simp <;> omega) _)
  have L2 := (L.below HB2).more HB2.size
  have lgc_2 := gc_2.lt
  have lgs_2 := gs_2.lt
  have lgz_2 := gz_2.lt
  simp only [hw]
  clear hw
  clear gcc0 gcc1 gcc2 gcc3 gcc4 gcc5 gcc6 gcc7 gcc8 gsc0 gsc1 gzc0 gzc1
  obtain ⟨gcc0, gcc1, gcc2, gcc3, gcc4, gcc5, gcc6, gcc7, gcc8⟩ := gc_2.c9
  obtain ⟨gsc0, gsc1⟩ := gs_2.c2
  obtain ⟨gzc0, gzc1⟩ := gz_2.c2
  go_wp2_with fail
  with_reducible refine ((unhide HLG) _ L2).mono ?_
  rintro e w3 ⟨rfl, hb3⟩
  have HB3 := HB2.trans (hb3.mono HB2.size)
  have gc_3 := gc_2.below hb3 gc_2.lt
  have lgc_3 := gc_3.lt
  have gs_3 := gs_2.below hb3 gs_2.lt
  have lgs_3 := gs_3.lt
  have gz_3 := gz_2.below hb3 gz_2.lt
  have lgz_3 := gz_3.lt
  have L3 := L2.to hb3
  clear gcc0 gcc1 gcc2 gcc3 gcc4 gcc5 gcc6 gcc7 gcc8 gsc0 gsc1 gzc0 gzc1
  obtain ⟨gcc0, gcc1, gcc2, gcc3, gcc4, gcc5, gcc6, gcc7, gcc8⟩ := gc_3.c9
  obtain ⟨gsc0, gsc1⟩ := gs_3.c2
  obtain ⟨gzc0, gzc1⟩ := gz_3.c2
  go_wp2
  go_quiet (fail)
  go_wp2
  clear gcc0 gcc1 gcc2 gcc3 gcc4 gcc5 gcc6 gcc7 gcc8 gsc0 gsc1 gzc0 gzc1
  obtain ⟨wq, hwq⟩ : ∃ W, w3.drewN nq = W := ⟨_, rfl⟩
  have gc_q : Blk wq (w.heap.size) 26 #[.int .i64 C.r, .int .i64 C.m, .slice (some a1) n c1, .slice (some a2) n c2, .slice (some a3) k c3, .slice (some a4) k c4, .int .i64 C.p, .int .i64 C.s, .int .i64 C.f] := by rw [← hwq]; exact gc_3.drewN nq
  have gz_q : Blk wq (w.heap.size + 1 + 1) 41 #[.int .i64 0, .int .i64 0] := by rw [← hwq]; exact gz_3.drewN nq
  have HBq : Below w.heap.size w wq := by rw [← hwq]; exact below_drewN HB3 nq
  simp only [hwq]
  clear hwq
  obtain ⟨y0, y1, y2, y3, y4, y5, y6, y7, y8⟩ := gc_q.c9
  obtain ⟨z0, z1⟩ := gz_q.c2
  have f0 := gz_q.frozen 0
  have f1 := gz_q.frozen 1
  refine wp_region_still_tail 21 (by kernel_rfl) (by kernel_rfl) ?_
  simp only [List.take_succ_cons, List.take_zero, List.drop_succ_cons, List.drop_zero]
  repeat still_step
  refine wpStill_nil ?_
  change wpList _ _ _ _ _ wq.drew
  go_wp2
  refine bodyPost_ret (ret_cell rfl rfl (load_ms ((gz_q.drew.set_ 0 _).set_ 1 _))) rfl ⟨rfl, ?_⟩
  exact (HBq.drew.setCell (by simp; try omega) _).setCell (by simp; try omega) _
theorem offTR (C : Cf) (a1 a2 a3 a4 : Addr) (n k c1 c2 c3 c4 : Nat) (fd fq : Int) (w : World) (L : Ly w w.heap.size C (some a1) (some a2) (some a3) (some a4) n n k k) (ok : CfOk C) :
    Calls Tryz.prog 56 #[.agg #[.int .i64 C.r, .int .i64 C.m, .slice (some a1) n c1, .slice (some a2) n c2, .slice (some a3) k c3, .slice (some a4) k c4, .int .i64 C.p, .int .i64 C.s, .int .i64 C.f], .agg #[.int .i64 fd, .int .i64 fq]] w fun e w' => e = .returned (.agg #[.int .i64 (ofD C fd fq), .int .i64 (ofQ C fd fq)]) ∧ Below w.heap.size w w' := by
  by_cases h : lenC C fd fq ≤ C.f
  · unfold ofD ofQ
    rw [if_pos h, if_pos h]
    exact offTR_le C a1 a2 a3 a4 n k c1 c2 c3 c4 fd fq w L ok h
  · have bl := lenC_bd ok fd fq
    have bf := ok.f
    have i1 := inX_in ok.d (clipI fd (-1073741824) 1073741824 - C.m)
    have i2 := inX_in ok.q (clipI fq (-1073741824) 1073741824)
    have e1 := inX_shrink (x := devD C fd) (a := lenC C fd fq - C.f) (b := lenC C fd fq) ok.d i1.1 i1.2 (by omega) (by omega) (by omega)
    have e2 := inX_shrink (x := devQ C fq) (a := lenC C fd fq - C.f) (b := lenC C fd fq) ok.q i2.1 i2.2 (by omega) (by omega) (by omega)
    unfold ofD ofQ
    rw [if_neg h, if_neg h, e1, e2]
    exact offTR_gt C a1 a2 a3 a4 n k c1 c2 c3 c4 fd fq w L ok h
end Go.Proofs.YtpfkiohknpeifaaGreat
