/- The walks of Rise, and of the reference's Bounds and Rise. -/
import Derived.Test.YtpfkiohknpeifaaMcB
import Derived.Test.YtpfkiohknpeifaaMcD
import Derived.Test.YtpfkiohknpeifaaMcC
import Derived.Test.YtpfkiohknpeifaaMSpan
import Derived.Test.YtpfkiohknpeifaaMSteep
import Derived.Deep.RegionHeld3
namespace Go.Proofs.Ytpfkiohknpeifaa
open Go.RowKit
theorem run_max4 (w : World) (ts : Array TypeId) (t : TypeId) (a b c d : Int) : (Builtin.max_ ts t #[.int .i64 a, .int .i64 b, .int .i64 c, .int .i64 d]).run Try.prog w = .ok (.int .i64 (max (max (max a b) c) d)) w := by
  have e : ∀ x y : Int, (if y > x then y else x) = max x y := fun x y => by rw [Int.max_def]; split <;> split <;> omega
  simp [Builtin.max_, Builtin.max2, e]
theorem run_max5 (w : World) (ts : Array TypeId) (t : TypeId) (a b c d f : Int) : (Builtin.max_ ts t #[.int .i64 a, .int .i64 b, .int .i64 c, .int .i64 d, .int .i64 f]).run Try.prog w = .ok (.int .i64 (max (max (max (max a b) c) d) f)) w := by
  have e : ∀ x y : Int, (if y > x then y else x) = max x y := fun x y => by rw [Int.max_def]; split <;> split <;> omega
  simp [Builtin.max_, Builtin.max2, e]
theorem absM (x : Int) (hx : -4294967296 ≤ x ∧ x ≤ 4294967296) (w : World) : Calls Try.prog 49 #[.int .i64 x] w fun e w' => e = .returned (.int .i64 (max x (-x))) ∧ w = w' := by
  go_enter Try.func49, Try.ntmps49
  go_wp2
  go_ret
  exact ⟨rfl, rfl⟩
/-- What is wrong with bounds. -/
def bdCode (bv bt bc : Int) : Int := if wiB bv 0 1048576 = true ∧ wiB bt 0 16384 = true ∧ wiB bc 0 1048576 = true then 0 else 3
/-- The greatest flux. -/
def riX (C : Cf) (bc : Int) : Int :=
  max (max (max (max (C.m + invI C.dx C.dy (-bc)) (-(C.m + invI C.dx C.dy (-bc)))) (max (C.m + spHi C.dx C.dy bc) (-(C.m + spHi C.dx C.dy bc)))) (max (invI C.qx C.qy (-bc)) (-invI C.qx C.qy (-bc)))) (max (spHi C.qx C.qy bc) (-spHi C.qx C.qy bc))
def riF (C : Cf) (bt bc : Int) : Int := (riX C bc * (32768 - cosA bt + sinA bt) + 32767).tdiv 32768
def riD (C : Cf) (bv bt bc : Int) : Int := riF C bt bc + 1 + bv + (C.r * bc).tdiv 1000
/-- The bound of the change of a current. -/
def riI (C : Cf) (bv bt bc : Int) : Int := max (stI C.dx C.dy (riD C bv bt bc)) (stI C.qx C.qy (riD C bv bt bc))
theorem reach_bd {X Y : List Int} (h : McOk X Y) (c : Int) : (-268435457 ≤ invI X Y (-c) ∧ invI X Y (-c) ≤ 268435456) ∧ (-268435457 ≤ spHi X Y c ∧ spHi X Y c ≤ 268435456) := by
  have e := mc_ends h
  have b1 := inv_bd h.ok (-c)
  have b2 := spHi_bd h.ok c
  omega
theorem rmax1 (a b : Int) : max (max (max b a) (-b)) (-a) = max (max a (-a)) (max b (-b)) := by ac_rfl
theorem rmax2 (F ql qh : Int) : max (max (max (max F qh) ql) (-qh)) (-ql) = max (max F (max ql (-ql))) (max qh (-qh)) := by ac_rfl
/-- 1 - cos + sin is not below 0 in the first quarter. -/
theorem riK_tab : ∀ k, k < 64 → ∀ f, f < 256 → 0 ≤ 32768 - cs k ((f : Nat) : Int) + sn k ((f : Nat) : Int) := by decide +kernel
theorem riK (a : Int) (h : 0 ≤ a ∧ a ≤ 16384) : 0 ≤ 32768 - cosA a + sinA a := by
  by_cases e : a = 16384
  · subst e; decide +kernel
  · have h1 := riK_tab ((a % 16384) / 256).toNat (by omega) (a % 256).toNat (by omega)
    have e2 : (((a % 256).toNat : Nat) : Int) = a % 256 := by omega
    rw [e2] at h1
    have e3 : (a % 65536 / 16384).toNat = 0 := by omega
    unfold cosA sinA
    rw [e3]
    exact h1
theorem mc_last {X Y : List Int} (h : McOk X Y) : 0 ≤ g Y (X.length - 1) := by
  have := (at_bd h.ok 0).2
  have z := h.zero
  omega
set_option maxRecDepth 100000 in
set_option maxHeartbeats 3200000 in
theorem riseM_bad (C : Cf) (A1 A2 A3 A4 : Option Addr) (n1 n2 n3 n4 c1 c2 c3 c4 : Nat) (bv bt bc : Int) (w : World) (L : Ly w w.heap.size C A1 A2 A3 A4 n1 n2 n3 n4) (hc : cfCode C ≠ 0) :
    Calls Try.prog 17 #[.agg #[.int .i64 C.r, .int .i64 C.m, .slice A1 n1 c1, .slice A2 n2 c2, .slice A3 n3 c3, .slice A4 n4 c4, .int .i64 C.p, .int .i64 C.s, .int .i64 C.f], .agg #[.int .i64 bv, .int .i64 bt, .int .i64 bc]] w fun e w' => e = .returned (.tuple #[.int .i64 0, errV (cfCode C)]) ∧ Below w.heap.size w w' := by
  have HB0 := ((Below.refl w.heap.size w).alloc (Nat.le_refl _) (.cells #[.int .i64 C.r, .int .i64 C.m, .slice A1 n1 c1, .slice A2 n2 c2, .slice A3 n3 c3, .slice A4 n4 c4, .int .i64 C.p, .int .i64 C.s, .int .i64 C.f] 26)).alloc (by simp) (.cells #[.int .i64 bv, .int .i64 bt, .int .i64 bc] 75)
  have L0 := ((L).new (.cells #[.int .i64 C.r, .int .i64 C.m, .slice A1 n1 c1, .slice A2 n2 c2, .slice A3 n3 c3, .slice A4 n4 c4, .int .i64 C.p, .int .i64 C.s, .int .i64 C.f] 26)).new (.cells #[.int .i64 bv, .int .i64 bt, .int .i64 bc] 75)
  have gc_0 := ((Blk.new w 26 #[.int .i64 C.r, .int .i64 C.m, .slice A1 n1 c1, .slice A2 n2 c2, .slice A3 n3 c3, .slice A4 n4 c4, .int .i64 C.p, .int .i64 C.s, .int .i64 C.f]).alloc (.cells #[.int .i64 bv, .int .i64 bt, .int .i64 bc] 75))
  have gb_0 := (Blk.new' (w := (w).alloc (.cells #[.int .i64 C.r, .int .i64 C.m, .slice A1 n1 c1, .slice A2 n2 c2, .slice A3 n3 c3, .slice A4 n4 c4, .int .i64 C.p, .int .i64 C.s, .int .i64 C.f] 26)) (t := 75) (cs := #[.int .i64 bv, .int .i64 bt, .int .i64 bc]) (g := w.heap.size + 1) (by simp))
  obtain ⟨cd, hcd⟩ : ∃ x, cfCode C = x := ⟨_, rfl⟩
  rw [hcd] at hc ⊢
  rw [errV_ne hc]
  have hck := fun (W : World) (h : Ly W W.heap.size C A1 A2 A3 A4 n1 n2 n3 n4) => chkM C A1 A2 A3 A4 n1 n2 n3 n4 c1 c2 c3 c4 W h
  simp only [hcd, errV_ne hc] at hck
  have HCK := hide hck
  clear hck hcd
  go_enter Try.func17, Try.ntmps17
  go_wp2_with fail
  with_reducible refine ((unhide HCK) _ L0).mono ?_
  rintro e w1 ⟨rfl, hb1⟩
  have HB1 := HB0.trans (hb1.mono HB0.size)
  have gc_1 := gc_0.below hb1 gc_0.lt
  have lgc_1 := gc_1.lt
  have gb_1 := gb_0.below hb1 gb_0.lt
  have lgb_1 := gb_1.lt
  have L1 := L0.to hb1
  go_wp2
  go_ret2
  exact ⟨rfl, HB1⟩
set_option maxRecDepth 100000 in
set_option maxHeartbeats 3200000 in
theorem riseM_bound (C : Cf) (a1 a2 a3 a4 : Addr) (n k c1 c2 c3 c4 : Nat) (bv bt bc : Int) (w : World) (L : Ly w w.heap.size C (some a1) (some a2) (some a3) (some a4) n n k k) (hc : cfCode C = 0) (hbd : bdCode bv bt bc ≠ 0) :
    Calls Try.prog 17 #[.agg #[.int .i64 C.r, .int .i64 C.m, .slice (some a1) n c1, .slice (some a2) n c2, .slice (some a3) k c3, .slice (some a4) k c4, .int .i64 C.p, .int .i64 C.s, .int .i64 C.f], .agg #[.int .i64 bv, .int .i64 bt, .int .i64 bc]] w fun e w' => e = .returned (.tuple #[.int .i64 0, .iface 79 (.int .i64 3)]) ∧ Below w.heap.size w w' := by
  have HB0 := ((Below.refl w.heap.size w).alloc (Nat.le_refl _) (.cells #[.int .i64 C.r, .int .i64 C.m, .slice (some a1) n c1, .slice (some a2) n c2, .slice (some a3) k c3, .slice (some a4) k c4, .int .i64 C.p, .int .i64 C.s, .int .i64 C.f] 26)).alloc (by simp) (.cells #[.int .i64 bv, .int .i64 bt, .int .i64 bc] 75)
  have L0 := ((L).new (.cells #[.int .i64 C.r, .int .i64 C.m, .slice (some a1) n c1, .slice (some a2) n c2, .slice (some a3) k c3, .slice (some a4) k c4, .int .i64 C.p, .int .i64 C.s, .int .i64 C.f] 26)).new (.cells #[.int .i64 bv, .int .i64 bt, .int .i64 bc] 75)
  have gc_0 := ((Blk.new w 26 #[.int .i64 C.r, .int .i64 C.m, .slice (some a1) n c1, .slice (some a2) n c2, .slice (some a3) k c3, .slice (some a4) k c4, .int .i64 C.p, .int .i64 C.s, .int .i64 C.f]).alloc (.cells #[.int .i64 bv, .int .i64 bt, .int .i64 bc] 75))
  have gb_0 := (Blk.new' (w := (w).alloc (.cells #[.int .i64 C.r, .int .i64 C.m, .slice (some a1) n c1, .slice (some a2) n c2, .slice (some a3) k c3, .slice (some a4) k c4, .int .i64 C.p, .int .i64 C.s, .int .i64 C.f] 26)) (t := 75) (cs := #[.int .i64 bv, .int .i64 bt, .int .i64 bc]) (g := w.heap.size + 1) (by simp))
  unfold bdCode at hbd
  have hck := fun (W : World) (h : Ly W W.heap.size C (some a1) (some a2) (some a3) (some a4) n n k k) => chkM C (some a1) (some a2) (some a3) (some a4) n n k k c1 c2 c3 c4 W h
  simp only [hc, errV_zero] at hck
  have HCK := hide hck
  clear hck hc
  go_enter Try.func17, Try.ntmps17
  go_wp2_with fail
  with_reducible refine ((unhide HCK) _ L0).mono ?_
  rintro e w1 ⟨rfl, hb1⟩
  have HB1 := HB0.trans (hb1.mono HB0.size)
  have gc_1 := gc_0.below hb1 gc_0.lt
  have lgc_1 := gc_1.lt
  have gb_1 := gb_0.below hb1 gb_0.lt
  have lgb_1 := gb_1.lt
  have L1 := L0.to hb1
  obtain ⟨gcc0, gcc1, gcc2, gcc3, gcc4, gcc5, gcc6, gcc7, gcc8⟩ := gc_1.c9
  obtain ⟨gbc0, gbc1, gbc2⟩ := gb_1.c3
  rcases Bool.eq_false_or_eq_true (wiB bv 0 1048576) with q1 | q1
  case inr =>
    go_wp2_with (first | (go_at_call 47; refine (wiM _ _ _ _).mono ?_; rintro e w' ⟨rfl, rfl⟩))
    go_ret2
    exact ⟨rfl, HB1⟩
  rcases Bool.eq_false_or_eq_true (wiB bt 0 16384) with q2 | q2
  case inr =>
    go_wp2_with (first | (go_at_call 47; refine (wiM _ _ _ _).mono ?_; rintro e w' ⟨rfl, rfl⟩))
    go_ret2
    exact ⟨rfl, HB1⟩
  rcases Bool.eq_false_or_eq_true (wiB bc 0 1048576) with q3 | q3
  case inr =>
    go_wp2_with (first | (go_at_call 47; refine (wiM _ _ _ _).mono ?_; rintro e w' ⟨rfl, rfl⟩))
    go_ret2
    exact ⟨rfl, HB1⟩
  exact absurd (if_pos ⟨q1, q2, q3⟩) hbd
set_option maxRecDepth 100000 in
set_option maxHeartbeats 3200000 in
theorem riseM (C : Cf) (a1 a2 a3 a4 : Addr) (n k c1 c2 c3 c4 : Nat) (bv bt bc : Int) (w : World) (L : Ly w w.heap.size C (some a1) (some a2) (some a3) (some a4) n n k k) (hc : cfCode C = 0) (hbd : bdCode bv bt bc = 0) :
    Calls Try.prog 17 #[.agg #[.int .i64 C.r, .int .i64 C.m, .slice (some a1) n c1, .slice (some a2) n c2, .slice (some a3) k c3, .slice (some a4) k c4, .int .i64 C.p, .int .i64 C.s, .int .i64 C.f], .agg #[.int .i64 bv, .int .i64 bt, .int .i64 bc]] w fun e w' => e = .returned (.tuple #[.int .i64 (riI C bv bt bc), .nilIface]) ∧ Below w.heap.size w w' := by
  have HB0 := ((Below.refl w.heap.size w).alloc (Nat.le_refl _) (.cells #[.int .i64 C.r, .int .i64 C.m, .slice (some a1) n c1, .slice (some a2) n c2, .slice (some a3) k c3, .slice (some a4) k c4, .int .i64 C.p, .int .i64 C.s, .int .i64 C.f] 26)).alloc (by simp) (.cells #[.int .i64 bv, .int .i64 bt, .int .i64 bc] 75)
  have L0 := ((L).new (.cells #[.int .i64 C.r, .int .i64 C.m, .slice (some a1) n c1, .slice (some a2) n c2, .slice (some a3) k c3, .slice (some a4) k c4, .int .i64 C.p, .int .i64 C.s, .int .i64 C.f] 26)).new (.cells #[.int .i64 bv, .int .i64 bt, .int .i64 bc] 75)
  have gc_0 := ((Blk.new w 26 #[.int .i64 C.r, .int .i64 C.m, .slice (some a1) n c1, .slice (some a2) n c2, .slice (some a3) k c3, .slice (some a4) k c4, .int .i64 C.p, .int .i64 C.s, .int .i64 C.f]).alloc (.cells #[.int .i64 bv, .int .i64 bt, .int .i64 bc] 75))
  have gb_0 := (Blk.new' (w := (w).alloc (.cells #[.int .i64 C.r, .int .i64 C.m, .slice (some a1) n c1, .slice (some a2) n c2, .slice (some a3) k c3, .slice (some a4) k c4, .int .i64 C.p, .int .i64 C.s, .int .i64 C.f] 26)) (t := 75) (cs := #[.int .i64 bv, .int .i64 bt, .int .i64 bc]) (g := w.heap.size + 1) (by simp))
  have ok := cf_ok hc
  obtain ⟨⟨q1, q2, q3⟩, hbd2⟩ : (wiB bv 0 1048576 = true ∧ wiB bt 0 16384 = true ∧ wiB bc 0 1048576 = true) ∧ True := by
    refine ⟨?_, trivial⟩
    unfold bdCode at hbd
    split at hbd
    · assumption
    · contradiction
  have b1 := wiB_iff.1 q1
  have b2 := wiB_iff.1 q2
  have b3 := wiB_iff.1 q3
  have bm := ok.m
  have br := ok.r
  have rd := reach_bd ok.d bc
  have rq := reach_bd ok.q bc
  have ld := mc_last ok.d
  have lq := mc_last ok.q
  have bcos := cosA_bd bt
  have bsin := sinA_bd bt
  have hr1 := fun (W : World) (h : Ly W W.heap.size C (some a1) (some a2) (some a3) (some a4) n n k k) => reachM C.dx C.dy a1 a2 n c1 c2 bc b3 W h.s1 h.s2 h.e1 ok.d.ok ok.d.cv (by omega)
  have hr2 := fun (W : World) (h : Ly W W.heap.size C (some a1) (some a2) (some a3) (some a4) n n k k) => reachM C.qx C.qy a3 a4 k c3 c4 bc b3 W h.s3 h.s4 h.e3 ok.q.ok ok.q.cv (by omega)
  have hs1 := fun (W : World) (h : Ly W W.heap.size C (some a1) (some a2) (some a3) (some a4) n n k k) => steepM C.dx C.dy a1 a2 n c1 c2 (riD C bv bt bc) W h.s1 h.s2 h.e1 ok.d.ok ok.d.cv
  have hs2 := fun (W : World) (h : Ly W W.heap.size C (some a1) (some a2) (some a3) (some a4) n n k k) => steepM C.qx C.qy a3 a4 k c3 c4 (riD C bv bt bc) W h.s3 h.s4 h.e3 ok.q.ok ok.q.cv
  have hbo := fun (W : World) => bothM bt W
  have hx : riX C bc = max (max (max (max (C.m + invI C.dx C.dy (-bc)) (-(C.m + invI C.dx C.dy (-bc)))) (max (C.m + spHi C.dx C.dy bc) (-(C.m + spHi C.dx C.dy bc)))) (max (invI C.qx C.qy (-bc)) (-invI C.qx C.qy (-bc)))) (max (spHi C.qx C.qy bc) (-spHi C.qx C.qy bc)) := rfl
  have hF : riF C bt bc = (riX C bc * (32768 - cosA bt + sinA bt) + 32767).tdiv 32768 := rfl
  have hD : riD C bv bt bc = riF C bt bc + 1 + bv + (C.r * bc).tdiv 1000 := rfl
  have hI : riI C bv bt bc = max (stI C.dx C.dy (riD C bv bt bc)) (stI C.qx C.qy (riD C bv bt bc)) := rfl
  rw [hI]
  obtain ⟨S1, hS1⟩ : ∃ x, stI C.dx C.dy (riD C bv bt bc) = x := ⟨_, rfl⟩
  obtain ⟨S2, hS2⟩ : ∃ x, stI C.qx C.qy (riD C bv bt bc) = x := ⟨_, rfl⟩
  simp only [hS1] at hs1 ⊢
  simp only [hS2] at hs2 ⊢
  obtain ⟨dl, hdl⟩ : ∃ x, invI C.dx C.dy (-bc) = x := ⟨_, rfl⟩
  obtain ⟨dh, hdh⟩ : ∃ x, spHi C.dx C.dy bc = x := ⟨_, rfl⟩
  obtain ⟨ql, hql⟩ : ∃ x, invI C.qx C.qy (-bc) = x := ⟨_, rfl⟩
  obtain ⟨qh, hqh⟩ : ∃ x, spHi C.qx C.qy bc = x := ⟨_, rfl⟩
  simp only [hdl, hdh] at hr1 rd
  simp only [hql, hqh] at hr2 rq
  rw [hdl, hdh, hql, hqh] at hx
  obtain ⟨co, hco⟩ : ∃ x, cosA bt = x := ⟨_, rfl⟩
  obtain ⟨si, hsi⟩ : ∃ x, sinA bt = x := ⟨_, rfl⟩
  simp only [hco, hsi] at hbo hF bcos bsin
  obtain ⟨FX, hFX⟩ : ∃ x, riX C bc = x := ⟨_, rfl⟩
  rw [hFX] at hx hF
  have bFX : 0 ≤ FX ∧ FX ≤ 536870914 := by omega
  have m1 := mul_bd (a := FX) (b := 32768 - co + si) (A := 536870914) (B := 163840) (by omega) (by omega)
  have t1 := tdiv_in (a := FX * (32768 - co + si) + 32767) (b := 32768) (A := -2684354571) (B := 2684354572) (by omega) (by omega) (by omega)
  rw [← hF] at t1
  have m2 := mul_bd (a := C.r) (b := bc) (A := 1048576) (B := 1048576) (by omega) (by omega)
  have t2 := tdiv_in (a := C.r * bc) (b := 1000) (A := -1099511628) (B := 1099511628) (by omega) (by omega) (by omega)
  obtain ⟨RR, hRR⟩ : ∃ x, (C.r * bc).tdiv 1000 = x := ⟨_, rfl⟩
  rw [hRR] at t2 hD
  obtain ⟨FF, hFF⟩ : ∃ x, riF C bt bc = x := ⟨_, rfl⟩
  rw [hFF] at hF t1 hD
  obtain ⟨DD, hDD⟩ : ∃ x, riD C bv bt bc = x := ⟨_, rfl⟩
  rw [hDD] at hD
  simp only [hDD] at hs1 hs2
  have e1 : IntKind.i64.wrap (FX * (32768 - co + si)) = FX * (32768 - co + si) := IntWalk.i64_in _ (by omega)
  have e2 : IntKind.i64.wrap (C.r * bc) = C.r * bc := IntWalk.i64_in _ (by omega)
  have e3 : IntKind.i64.wrap (FX * (32768 - co + si) + 32767) = FX * (32768 - co + si) + 32767 := IntWalk.i64_in _ (by omega)
  have e4 : wrap64 FF = FF := by unfold wrap64; omega
  have e5 : wrap64 RR = RR := by unfold wrap64; omega
  have e6 : IntKind.i64.wrap (C.m + dl) = C.m + dl := IntWalk.i64_in _ (by omega)
  have e7 : IntKind.i64.wrap (C.m + dh) = C.m + dh := IntWalk.i64_in _ (by omega)
  have hck := fun (W : World) (h : Ly W W.heap.size C (some a1) (some a2) (some a3) (some a4) n n k k) => chkM C (some a1) (some a2) (some a3) (some a4) n n k k c1 c2 c3 c4 W h
  simp only [hc, errV_zero] at hck
  have hF2 := hF.symm
  simp only [hD] at hs1 hs2
  have hx2 := hx.symm
  have hm4 := fun W ts t => run_max4 W ts t (max (C.m + dl) (-(C.m + dl))) (max (C.m + dh) (-(C.m + dh))) (max ql (-ql)) (max qh (-qh))
  simp only [hx2] at hm4
  have ha1 := fun W => absM (C.m + dl) (by omega) W
  have ha2 := fun W => absM (C.m + dh) (by omega) W
  have ha3 := fun W => absM ql (by omega) W
  have ha4 := fun W => absM qh (by omega) W
  have HCK := hide hck
  have HR1 := hide hr1
  have HR2 := hide hr2
  have HS1 := hide hs1
  have HS2 := hide hs2
  have HBO := hide hbo
  have A1 := hide ha1
  have A2 := hide ha2
  have A3 := hide ha3
  have A4 := hide ha4
  clear hck hr1 hr2 hs1 hs2 hbo ha1 ha2 ha3 ha4 hx hF hD hx2 hS1 hS2 hdl hdh hql hqh hco hsi hFX hFF hDD hI hc hbd hbd2 ok m1 m2
  go_enter Try.func17, Try.ntmps17
  go_wp2_with fail
  with_reducible refine ((unhide HCK) _ L0).mono ?_
  rintro e w1 ⟨rfl, hb1⟩
  have HB1 := HB0.trans (hb1.mono HB0.size)
  have gc_1 := gc_0.below hb1 gc_0.lt
  have lgc_1 := gc_1.lt
  have gb_1 := gb_0.below hb1 gb_0.lt
  have lgb_1 := gb_1.lt
  have L1 := L0.to hb1
  obtain ⟨gcc0, gcc1, gcc2, gcc3, gcc4, gcc5, gcc6, gcc7, gcc8⟩ := gc_1.c9
  obtain ⟨gbc0, gbc1, gbc2⟩ := gb_1.c3
  go_wp2_with (first | (go_at_call 47; refine (wiM _ _ _ _).mono ?_; rintro e w' ⟨rfl, rfl⟩))
  with_reducible refine ((unhide HR1) _ L1).mono ?_
  rintro e w2 ⟨rfl, hb2⟩
  have HB2 := HB1.trans (hb2.mono HB1.size)
  have gc_2 := gc_1.below hb2 gc_1.lt
  have lgc_2 := gc_2.lt
  have gb_2 := gb_1.below hb2 gb_1.lt
  have lgb_2 := gb_2.lt
  have L2 := L1.to hb2
  clear gcc0 gcc1 gcc2 gcc3 gcc4 gcc5 gcc6 gcc7 gcc8 gbc0 gbc1 gbc2
  obtain ⟨gcc0, gcc1, gcc2, gcc3, gcc4, gcc5, gcc6, gcc7, gcc8⟩ := gc_2.c9
  obtain ⟨gbc0, gbc1, gbc2⟩ := gb_2.c3
  go_wp2_with fail
  with_reducible refine ((unhide HR2) _ L2).mono ?_
  rintro e w3 ⟨rfl, hb3⟩
  have HB3 := HB2.trans (hb3.mono HB2.size)
  have gc_3 := gc_2.below hb3 gc_2.lt
  have lgc_3 := gc_3.lt
  have gb_3 := gb_2.below hb3 gb_2.lt
  have lgb_3 := gb_3.lt
  have L3 := L2.to hb3
  clear gcc0 gcc1 gcc2 gcc3 gcc4 gcc5 gcc6 gcc7 gcc8 gbc0 gbc1 gbc2
  obtain ⟨gcc0, gcc1, gcc2, gcc3, gcc4, gcc5, gcc6, gcc7, gcc8⟩ := gc_3.c9
  obtain ⟨gbc0, gbc1, gbc2⟩ := gb_3.c3
  go_wp2
  go_quiet ((first | (go_at_call 49; with_reducible exact quiet_left ((unhide A1) _)) | (go_at_call 49; with_reducible exact quiet_left ((unhide A2) _)) | (go_at_call 49; with_reducible exact quiet_left ((unhide A3) _)) | (go_at_call 49; with_reducible exact quiet_left ((unhide A4) _))))
  have gcq := gc_3.drewN nq
  have gbq := gb_3.drewN nq
  have HBq := below_drewN HB3 nq
  have Lq := L3.drewN nq
  go_wp2_with fail
  with_reducible refine ((unhide HBO) _).mono ?_
  rintro e w9 ⟨rfl, hb9⟩
  have gc_9 := gcq.below hb9 gcq.lt
  have gb_9 := gbq.below hb9 gbq.lt
  have HB9 := HBq.trans (hb9.mono HBq.size)
  have L9 := Lq.to hb9
  have lgc_9 := gc_9.lt
  have lgb_9 := gb_9.lt
  clear gcc0 gcc1 gcc2 gcc3 gcc4 gcc5 gcc6 gcc7 gcc8 gbc0 gbc1 gbc2
  obtain ⟨gcc0, gcc1, gcc2, gcc3, gcc4, gcc5, gcc6, gcc7, gcc8⟩ := gc_9.c9
  obtain ⟨gbc0, gbc1, gbc2⟩ := gb_9.c3
  go_wp2_with fail
  with_reducible refine ((unhide HS1) _ L9).mono ?_
  rintro e w10 ⟨rfl, hb10⟩
  have HB10 := HB9.trans (hb10.mono HB9.size)
  have gc_10 := gc_9.below hb10 gc_9.lt
  have lgc_10 := gc_10.lt
  have gb_10 := gb_9.below hb10 gb_9.lt
  have lgb_10 := gb_10.lt
  have L10 := L9.to hb10
  clear gcc0 gcc1 gcc2 gcc3 gcc4 gcc5 gcc6 gcc7 gcc8 gbc0 gbc1 gbc2
  obtain ⟨gcc0, gcc1, gcc2, gcc3, gcc4, gcc5, gcc6, gcc7, gcc8⟩ := gc_10.c9
  obtain ⟨gbc0, gbc1, gbc2⟩ := gb_10.c3
  go_wp2_with fail
  with_reducible refine ((unhide HS2) _ L10).mono ?_
  rintro e w11 ⟨rfl, hb11⟩
  have HB11 := HB10.trans (hb11.mono HB10.size)
  have gc_11 := gc_10.below hb11 gc_10.lt
  have lgc_11 := gc_11.lt
  have gb_11 := gb_10.below hb11 gb_10.lt
  have lgb_11 := gb_11.lt
  have L11 := L10.to hb11
  go_wp2
  go_ret2
  exact ⟨rfl, HB11⟩
end Go.Proofs.Ytpfkiohknpeifaa
