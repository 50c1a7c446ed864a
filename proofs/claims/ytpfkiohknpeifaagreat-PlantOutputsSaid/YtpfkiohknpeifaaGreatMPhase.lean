/- The phases of a vector: how long they are; the walks of Phases and of the reference's. -/
import Derived.Test.YtpfkiohknpeifaaGreatMStep
import Derived.Test.YtpfkiohknpeifaaGreatMcC
namespace Go.Proofs.YtpfkiohknpeifaaGreat
open Go.RowKit
theorem circle : ∀ k, k < 64 → ∀ f, f < 256 → sn k (f : Nat) * sn k (f : Nat) + cs k (f : Nat) * cs k (f : Nat) ≤ 1073741824 := by decide +kernel
theorem circleA (a : Int) : cosA a * cosA a + sinA a * sinA a ≤ 1073741824 := by
  have h := circle ((a % 16384) / 256).toNat (by omega) (a % 256).toNat (by omega)
  have e : (((a % 256).toNat : Nat) : Int) = a % 256 := by omega
  rw [e] at h
  unfold cosA sinA
  generalize sn ((a % 16384) / 256).toNat (a % 256) = S at *
  generalize cs ((a % 16384) / 256).toNat (a % 256) = C at *
  unfold cq sq
  split <;> grind
theorem sq_le {x m : Int} (hm : 0 ≤ m) (h : x * x ≤ m * m) : -m ≤ x ∧ x ≤ m := by
  constructor
  · refine Int.not_lt.1 fun h1 => ?_
    have h2 := Int.mul_le_mul (show m + 1 ≤ -x by omega) (show m + 1 ≤ -x by omega) (by omega) (by omega)
    have h3 : (m + 1) * (m + 1) = m * m + 2 * m + 1 := by grind
    have h4 : -x * -x = x * x := by grind
    omega
  · refine Int.not_lt.1 fun h1 => ?_
    have h2 := Int.mul_le_mul (show m + 1 ≤ x by omega) (show m + 1 ≤ x by omega) (by omega) (by omega)
    have h3 : (m + 1) * (m + 1) = m * m + 2 * m + 1 := by grind
    omega
theorem sq_nonneg' (x : Int) : 0 ≤ x * x := by
  rcases Int.lt_or_le x 0 with h | h
  · exact Int.mul_nonneg_of_nonpos_of_nonpos (by omega) (by omega)
  · exact Int.mul_nonneg h h
theorem tdiv_sq0 {U : Int} (h : 0 ≤ U) {d : Int} (hd : 0 < d) : (U.tdiv d * d) * (U.tdiv d * d) ≤ U * U := by
  have h1 : U.tdiv d * d + U.tmod d = U := Int.tdiv_mul_add_tmod U d
  have h2 : 0 ≤ U.tdiv d := Int.tdiv_nonneg h (by omega)
  have h3 : U.tdiv d * d ≤ U := by have := Int.tmod_nonneg d h; omega
  exact Int.mul_le_mul h3 h3 (Int.mul_nonneg h2 (by omega)) h
theorem tdiv_sq (U : Int) {d : Int} (hd : 0 < d) : (U.tdiv d * d) * (U.tdiv d * d) ≤ U * U := by
  rcases Int.lt_or_le U 0 with h | h
  · have h1 := tdiv_sq0 (U := -U) (by omega) hd
    rw [Int.neg_tdiv] at h1
    have e1 : -U.tdiv d * d * (-U.tdiv d * d) = U.tdiv d * d * (U.tdiv d * d) := by grind
    have e2 : -U * -U = U * U := by grind
    omega
  · exact tdiv_sq0 h hd
/-- A turned vector is no longer. -/
theorem turn_len (x y a : Int) : turnU x y a * turnU x y a + turnV x y a * turnV x y a ≤ x * x + y * y := by
  have h1 := tdiv_sq (cosA a * x - sinA a * y) (d := 32768) (by omega)
  have h2 := tdiv_sq (sinA a * x + cosA a * y) (d := 32768) (by omega)
  have h3 := circleA a
  change turnU x y a * 32768 * (turnU x y a * 32768) ≤ _ at h1
  change turnV x y a * 32768 * (turnV x y a * 32768) ≤ _ at h2
  generalize turnU x y a = u at *
  generalize turnV x y a = v at *
  generalize cosA a = c at *
  generalize sinA a = s at *
  have e1 : (c * x - s * y) * (c * x - s * y) + (s * x + c * y) * (s * x + c * y) = (c * c + s * s) * (x * x + y * y) := by grind
  have e2 : (c * c + s * s) * (x * x + y * y) ≤ 1073741824 * (x * x + y * y) := Int.mul_le_mul_of_nonneg_right h3 (by have := sq_nonneg' x; have := sq_nonneg' y; omega)
  have e3 : u * 32768 * (u * 32768) = 1073741824 * (u * u) := by grind
  have e4 : v * 32768 * (v * 32768) = 1073741824 * (v * v) := by grind
  omega
/-- The second phase. -/
def phB (x y : Int) : Int := (113511 * y - 65536 * x).tdiv 131072
theorem up_ge (n : Nat) : (n : Int) ≤ (upN n : Nat) * (upN n : Nat) := by
  have h := sqN_spec n
  have : n ≤ upN n * upN n := by
    unfold upN
    split <;> omega
  exact_mod_cast this
theorem len_ge (x y : Int) : x * x + y * y ≤ (lenI x y : Nat) * (lenI x y : Nat) := by
  have h := up_ge (x * x + y * y).toNat
  have := sq_nonneg' x
  have := sq_nonneg' y
  unfold lenI
  omega
/-- How long the phases of a turned vector are. -/
theorem phases_len (x y a : Int) : ∀ m : Int, m = (lenI x y : Nat) →
    (-m ≤ turnU x y a ∧ turnU x y a ≤ m) ∧ (-m ≤ phB (turnU x y a) (turnV x y a) ∧ phB (turnU x y a) (turnV x y a) ≤ m) ∧
    (-m - 2 ≤ -turnU x y a - phB (turnU x y a) (turnV x y a) ∧ -turnU x y a - phB (turnU x y a) (turnV x y a) ≤ m + 2) := by
  intro m hm
  have h0 := len_ge x y
  rw [← hm] at h0
  have hm0 : 0 ≤ m := by omega
  have h1 := turn_len x y a
  generalize turnU x y a = u at *
  generalize turnV x y a = v at *
  have su := sq_nonneg' u
  have sv := sq_nonneg' v
  have hu : u * u ≤ m * m := by omega
  have t := tdiv_sq (113511 * v - 65536 * u) (d := 131072) (by omega)
  change phB u v * 131072 * (phB u v * 131072) ≤ _ at t
  have e0 : phB u v * 131072 + (113511 * v - 65536 * u).tmod 131072 = 113511 * v - 65536 * u := Int.tdiv_mul_add_tmod _ _
  have r1 := Int.tmod_lt_of_pos (113511 * v - 65536 * u) (b := 131072) (by omega)
  have r2 : -131072 < (113511 * v - 65536 * u).tmod 131072 := by
    have := Int.tmod_lt_of_pos (-(113511 * v - 65536 * u)) (b := 131072) (by omega)
    rw [Int.neg_tmod] at this
    omega
  generalize (113511 * v - 65536 * u).tmod 131072 = r at *
  generalize phB u v = b at *
  have e1 : (113511 * v - 65536 * u) * (113511 * v - 65536 * u) + (113511 * u + 65536 * v) * (113511 * u + 65536 * v) = 17179714417 * (u * u + v * v) := by grind
  have s1 := sq_nonneg' (113511 * u + 65536 * v)
  have e2 : b * 131072 * (b * 131072) = 17179869184 * (b * b) := by grind
  have hb : b * b ≤ m * m := by omega
  have e3 : (65536 * u + 113511 * v) * (65536 * u + 113511 * v) + (65536 * v - 113511 * u) * (65536 * v - 113511 * u) = 17179714417 * (u * u + v * v) := by grind
  have s3 := sq_nonneg' (65536 * v - 113511 * u)
  have e4 : (131072 * m) * (131072 * m) = 17179869184 * (m * m) := by grind
  have hB := sq_le (x := 65536 * u + 113511 * v) (m := 131072 * m) (by omega) (by omega)
  exact ⟨sq_le hm0 hu, sq_le hm0 hb, by omega, by omega⟩
theorem tmod_mod (n : Int) : n.tmod 65536 % 65536 = n % 65536 := by
  rcases Int.lt_or_le n 0 with h | h
  · rw [tmod_neg h]; omega
  · rw [tmod_pos h]; omega
theorem load_ints3 {w : World} {g : Nat} {t : TypeId} {a b c : Value} (h : Blk w g t #[a, b, c]) : (loadVar 67 ⟨g, 0, none⟩).run Tryz.prog w = .ok (.agg #[a, b, c]) w := by
  obtain ⟨k0, k1, k2⟩ := h.c3
  simp [go_sem, k0, k1, k2]
set_option maxRecDepth 100000 in
theorem cphM (x y : Int) (hx : -1073741824 ≤ x ∧ x ≤ 1073741824) (hy : -1073741824 ≤ y ∧ y ≤ 1073741824) (w : World) : Calls Tryz.prog 128 #[.int .i64 x, .int .i64 y] w fun e w' => e = .returned (.agg #[.int .i64 x, .int .i64 (phB x y), .int .i64 (-x - phB x y)]) ∧ Below w.heap.size w w' := by
  have hv : phB x y = (113511 * y - 65536 * x).tdiv 131072 := rfl
  have t1 := tdiv_in (a := 113511 * y - 65536 * x) (b := 131072) (A := -2147483648) (B := 2147483648) (by omega) (by omega) (by omega)
  obtain ⟨b, hb⟩ : ∃ b, (113511 * y - 65536 * x).tdiv 131072 = b := ⟨_, rfl⟩
  rw [hb] at hv t1
  rw [hv]
  have r1 : IntKind.i64.wrap b = b := IntWalk.i64_in _ (by omega)
  have r2 : wrap64 b = b := by unfold wrap64; omega
  have hb0 := (Below.refl w.heap.size w).alloc (Nat.le_refl _) (.cells #[.int .i64 x, .int .i64 b, .int .i64 (-x - b)] 67)
  have g0 := Blk.new w 67 #[.int .i64 x, .int .i64 b, .int .i64 (-x - b)]
  clear hv
  go_enter Tryz.func128, Tryz.ntmps128
  go_wp2
  exact bodyPost_ret (ret_cell rfl rfl (load_ints3 g0)) rfl ⟨rfl, hb0⟩
set_option maxRecDepth 100000 in
theorem cbackM (x y : Int) (hx : -1073741824 ≤ x ∧ x ≤ 1073741824) (hy : -1073741824 ≤ y ∧ y ≤ 1073741824) (w : World) : Calls Tryz.prog 87 #[.int .i64 x, .int .i64 y] w fun e w' => e = .returned (.tuple #[.agg #[.int .i64 x, .int .i64 (phB x y), .int .i64 (-x - phB x y)], .nilIface]) ∧ Below w.heap.size w w' := by
  have hv : phB x y = (113511 * y - 65536 * x).tdiv 131072 := rfl
  have t1 := tdiv_in (a := 113511 * y - 65536 * x) (b := 131072) (A := -2147483648) (B := 2147483648) (by omega) (by omega) (by omega)
  have hph := fun W => cphM x y hx hy W
  have hne := fun W (g : Nat) (h : Blk W g 3 #[.int .i64 x, .int .i64 y]) => cnearM [x, y] ⟨g, 0, none⟩ 2 2 W (blk2 h) rfl (by decide) (near2 hx hy)
  obtain ⟨b, hb⟩ : ∃ b, (113511 * y - 65536 * x).tdiv 131072 = b := ⟨_, rfl⟩
  rw [hb] at hv t1
  simp only [hv] at hph ⊢
  have r1 : IntKind.i64.wrap b = b := IntWalk.i64_in _ (by omega)
  have r2 : wrap64 b = b := by unfold wrap64; omega
  have hb0 := ((Below.refl w.heap.size w).alloc (Nat.le_refl _) (.cells #[.int .i64 0, .int .i64 0, .int .i64 0] 67)).alloc (by simp) (.cells #[.int .i64 x, .int .i64 y] 3)
  have gz := (Blk.new w 67 #[.int .i64 0, .int .i64 0, .int .i64 0]).alloc (.cells #[.int .i64 x, .int .i64 y] 3)
  have g1 := Blk.new' (w := w.alloc (.cells #[.int .i64 0, .int .i64 0, .int .i64 0] 67)) (t := 3) (cs := #[.int .i64 x, .int .i64 y]) (g := w.heap.size + 1) (by simp)
  have HNE := hide hne
  have HPH := hide hph
  clear hne hph hv
  go_enter Tryz.func87, Tryz.ntmps87
  go_wp2_with fail
  with_reducible refine ((unhide HNE) _ _ g1).mono ?_
  rintro e w1 ⟨rfl, rfl⟩
  go_wp2_with fail
  with_reducible refine ((unhide HPH) _).mono ?_
  rintro e w2 ⟨rfl, hb2⟩
  have gz2 := gz.below hb2 gz.lt
  have HB2 := hb0.trans (hb2.mono hb0.size)
  have lz2 := gz2.lt
  obtain ⟨z0, z1, z2⟩ := gz2.c3
  have f0 := gz2.frozen 0
  have f1 := gz2.frozen 1
  have f2 := gz2.frozen 2
  go_wp2
  refine bodyPost_ret (ret_cell_tmp rfl rfl (load_ints3 (((gz2.set_ 0 _).set_ 1 _).set_ 2 _))) rfl ⟨rfl, ?_⟩
  exact ((HB2.setCell (by simp; try omega) _).setCell (by simp; try omega) _).setCell (by simp; try omega) _
set_option maxRecDepth 100000 in
theorem cbackR (x y : Int) (hx : -1073741824 ≤ x ∧ x ≤ 1073741824) (hy : -1073741824 ≤ y ∧ y ≤ 1073741824) (w : World) : Calls Tryz.prog 105 #[.int .i64 x, .int .i64 y] w fun e w' => e = .returned (.tuple #[.agg #[.int .i64 x, .int .i64 (phB x y), .int .i64 (-x - phB x y)], .int .i64 0]) ∧ Below w.heap.size w w' := by
  have hv : phB x y = (113511 * y - 65536 * x).tdiv 131072 := rfl
  have t1 := tdiv_in (a := 113511 * y - 65536 * x) (b := 131072) (A := -2147483648) (B := 2147483648) (by omega) (by omega) (by omega)
  have hne := fun W (g : Nat) (h : Blk W g 3 #[.int .i64 x, .int .i64 y]) => cnearR [x, y] ⟨g, 0, none⟩ 2 2 W (blk2 h) rfl (by decide) (near2 hx hy)
  obtain ⟨b, hb⟩ : ∃ b, (113511 * y - 65536 * x).tdiv 131072 = b := ⟨_, rfl⟩
  rw [hb] at hv t1
  rw [hv]
  have r1 : IntKind.i64.wrap b = b := IntWalk.i64_in _ (by omega)
  have r2 : wrap64 b = b := by unfold wrap64; omega
  have g1 := Blk.new' (w := w.alloc (.cells #[.int .i64 0, .int .i64 0, .int .i64 0] 67)) (t := 3) (cs := #[.int .i64 x, .int .i64 y]) (g := w.heap.size + 1) (by simp)
  have HNE := hide hne
  clear hne  hv
  go_enter Tryz.func105, Tryz.ntmps105
  go_wp2_with fail
  with_reducible refine ((unhide HNE) _ _ g1).mono ?_
  rintro e w1 ⟨rfl, rfl⟩
  go_wp2
  exact bodyPost_ret (ret_cell_tmp rfl rfl (load_ints3 ((Blk.new w 67 #[.int .i64 x, .int .i64 b, .int .i64 (-x - b)]).alloc _))) rfl ⟨rfl, ((Below.refl w.heap.size w).alloc (Nat.le_refl _) _).alloc (by simp) _⟩
set_option maxRecDepth 100000 in
theorem pbackM (x y n : Int) (hx : -1099511627776 ≤ x ∧ x ≤ 1099511627776) (hy : -1099511627776 ≤ y ∧ y ≤ 1099511627776) (w : World) :
    Calls Tryz.prog 86 #[.int .i64 x, .int .i64 y, .int .i64 n] w fun e w' => e = .returned (.tuple #[.int .i64 (turnU x y n), .int .i64 (turnV x y n), .nilIface]) ∧ Below w.heap.size w w' := by
  have htu := fun W => turnM x y n hx hy W
  obtain ⟨u, hu⟩ : ∃ u, turnU x y n = u := ⟨_, rfl⟩
  obtain ⟨v, hv⟩ : ∃ u, turnV x y n = u := ⟨_, rfl⟩
  simp only [hu, hv] at htu ⊢
  have HTU := hide htu
  clear htu hu hv hx hy
  go_enter Tryz.func86, Tryz.ntmps86
  go_wp2_with fail
  with_reducible refine ((unhide HTU) _).mono ?_
  rintro e w1 ⟨rfl, hb⟩
  go_wp2
  exact bodyPost_ret (results_tmp3 rfl _ _ _) rfl ⟨rfl, hb⟩
set_option maxRecDepth 100000 in
theorem pbackR (x y n : Int) (hx : -1099511627776 ≤ x ∧ x ≤ 1099511627776) (hy : -1099511627776 ≤ y ∧ y ≤ 1099511627776) (w : World) :
    Calls Tryz.prog 104 #[.int .i64 x, .int .i64 y, .int .i64 n] w fun e w' => e = .returned (.tuple #[.int .i64 (turnU x y n), .int .i64 (turnV x y n), .int .i64 0]) ∧ Below w.heap.size w w' := by
  have htu := fun W => turnR x y n hx hy W
  obtain ⟨u, hu⟩ : ∃ u, turnU x y n = u := ⟨_, rfl⟩
  obtain ⟨v, hv⟩ : ∃ u, turnV x y n = u := ⟨_, rfl⟩
  simp only [hu, hv] at htu ⊢
  have HTU := hide htu
  clear htu hu hv hx hy
  go_enter Tryz.func104, Tryz.ntmps104
  go_wp2_with fail
  with_reducible refine ((unhide HTU) _).mono ?_
  rintro e w1 ⟨rfl, hb⟩
  go_wp2
  exact bodyPost_ret (results_tmp3 rfl _ _ _) rfl ⟨rfl, hb⟩
/-- The phases of a state at an angle. -/
def phU (C : Cf) (fd fq a : Int) : Int := turnU (curD C fd) (curQ C fq) a
def phV (C : Cf) (fd fq a : Int) : Int := turnV (curD C fd) (curQ C fq) a
set_option maxRecDepth 100000 in
set_option maxHeartbeats 3200000 in
theorem phasesM_bad (C : Cf) (A1 A2 A3 A4 : Option Addr) (n1 n2 n3 n4 c1 c2 c3 c4 : Nat) (fd fq an : Int) (w : World) (L : Ly w w.heap.size C A1 A2 A3 A4 n1 n2 n3 n4) (hc : cfCode C ≠ 0) :
    Calls Tryz.prog 40 #[.agg #[.int .i64 C.r, .int .i64 C.m, .slice A1 n1 c1, .slice A2 n2 c2, .slice A3 n3 c3, .slice A4 n4 c4, .int .i64 C.p, .int .i64 C.s, .int .i64 C.f], .agg #[.int .i64 fd, .int .i64 fq], .int .i64 an] w fun e w' => e = .returned (.tuple #[.agg #[.int .i64 0, .int .i64 0, .int .i64 0], errV (cfCode C)]) ∧ Below w.heap.size w w' := by
  have HB0 := (((Below.refl w.heap.size w).alloc (Nat.le_refl _) (.cells #[.int .i64 C.r, .int .i64 C.m, .slice A1 n1 c1, .slice A2 n2 c2, .slice A3 n3 c3, .slice A4 n4 c4, .int .i64 C.p, .int .i64 C.s, .int .i64 C.f] 26)).alloc (by simp) (.cells #[.int .i64 fd, .int .i64 fq] 41)).alloc (by simp <;> omega) (.cells #[.int .i64 0, .int .i64 0, .int .i64 0] 67)
  have L0 := (((L).new (.cells #[.int .i64 C.r, .int .i64 C.m, .slice A1 n1 c1, .slice A2 n2 c2, .slice A3 n3 c3, .slice A4 n4 c4, .int .i64 C.p, .int .i64 C.s, .int .i64 C.f] 26)).new (.cells #[.int .i64 fd, .int .i64 fq] 41)).new (.cells #[.int .i64 0, .int .i64 0, .int .i64 0] 67)
  have gc_0 := (((Blk.new w 26 #[.int .i64 C.r, .int .i64 C.m, .slice A1 n1 c1, .slice A2 n2 c2, .slice A3 n3 c3, .slice A4 n4 c4, .int .i64 C.p, .int .i64 C.s, .int .i64 C.f]).alloc (.cells #[.int .i64 fd, .int .i64 fq] 41)).alloc (.cells #[.int .i64 0, .int .i64 0, .int .i64 0] 67))
  have gs_0 := ((Blk.new' (w := (w).alloc (.cells #[.int .i64 C.r, .int .i64 C.m, .slice A1 n1 c1, .slice A2 n2 c2, .slice A3 n3 c3, .slice A4 n4 c4, .int .i64 C.p, .int .i64 C.s, .int .i64 C.f] 26)) (t := 41) (cs := #[.int .i64 fd, .int .i64 fq]) (g := w.heap.size + 1) (by simp)).alloc (.cells #[.int .i64 0, .int .i64 0, .int .i64 0] 67))
  have gz_0 := (Blk.new' (w := ((w).alloc (.cells #[.int .i64 C.r, .int .i64 C.m, .slice A1 n1 c1, .slice A2 n2 c2, .slice A3 n3 c3, .slice A4 n4 c4, .int .i64 C.p, .int .i64 C.s, .int .i64 C.f] 26)).alloc (.cells #[.int .i64 fd, .int .i64 fq] 41)) (t := 67) (cs := #[.int .i64 0, .int .i64 0, .int .i64 0]) (g := w.heap.size + 1 + 1) (by simp))
  obtain ⟨cd, hcd⟩ : ∃ x, cfCode C = x := ⟨_, rfl⟩
  have hcu := fun (W : World) (h : Ly W W.heap.size C A1 A2 A3 A4 n1 n2 n3 n4) => currentsM_bad C A1 A2 A3 A4 n1 n2 n3 n4 c1 c2 c3 c4 fd fq W h hc
  rw [hcd] at hc ⊢
  rw [errV_ne hc]
  simp only [hcd, errV_ne hc] at hcu
  have HCU := hide hcu
  clear hcu hcd
  go_enter Tryz.func40, Tryz.ntmps40
  go_wp2_with fail
  with_reducible refine ((unhide HCU) _ L0).mono ?_
  rintro e w1 ⟨rfl, hb1⟩
  have HB1 := HB0.trans (hb1.mono HB0.size)
  have gc_1 := gc_0.below hb1 gc_0.lt
  have lgc_1 := gc_1.lt
  have gs_1 := gs_0.below hb1 gs_0.lt
  have lgs_1 := gs_1.lt
  have gz_1 := gz_0.below hb1 gz_0.lt
  have lgz_1 := gz_1.lt
  have L1 := L0.to hb1
  obtain ⟨gcc0, gcc1, gcc2, gcc3, gcc4, gcc5, gcc6, gcc7, gcc8⟩ := gc_1.c9
  obtain ⟨gsc0, gsc1⟩ := gs_1.c2
  obtain ⟨gzc0, gzc1, gzc2⟩ := gz_1.c3
  have lz' : w.heap.size + 1 + 1 < w1.heap.size + 1 := by have := gz_1.lt; omega
  have f0 := gz_1.frozen 0
  have f1 := gz_1.frozen 1
  have f2 := gz_1.frozen 2
  go_wp2
  refine bodyPost_ret (ret_cell_tmp rfl rfl (load_ints3 ((((gz_1.set_ 0 _).set_ 1 _).set_ 2 _).alloc _))) rfl ⟨rfl, ?_⟩
  exact (((HB1.setCell (by simp; try omega) _).setCell (by simp; try omega) _).setCell (by simp; try omega) _).alloc (by simp; have := HB1.size; omega) _
set_option maxRecDepth 100000 in
set_option maxHeartbeats 3200000 in
theorem phasesM (C : Cf) (a1 a2 a3 a4 : Addr) (n k c1 c2 c3 c4 : Nat) (fd fq an : Int) (w : World) (L : Ly w w.heap.size C (some a1) (some a2) (some a3) (some a4) n n k k) (hc : cfCode C = 0) :
    Calls Tryz.prog 40 #[.agg #[.int .i64 C.r, .int .i64 C.m, .slice (some a1) n c1, .slice (some a2) n c2, .slice (some a3) k c3, .slice (some a4) k c4, .int .i64 C.p, .int .i64 C.s, .int .i64 C.f], .agg #[.int .i64 fd, .int .i64 fq], .int .i64 an] w fun e w' => e = .returned (.tuple #[.agg #[.int .i64 (phU C fd fq an), .int .i64 (phB (phU C fd fq an) (phV C fd fq an)), .int .i64 (-phU C fd fq an - phB (phU C fd fq an) (phV C fd fq an))], .nilIface]) ∧ Below w.heap.size w w' := by
  have HB0 := (((Below.refl w.heap.size w).alloc (Nat.le_refl _) (.cells #[.int .i64 C.r, .int .i64 C.m, .slice (some a1) n c1, .slice (some a2) n c2, .slice (some a3) k c3, .slice (some a4) k c4, .int .i64 C.p, .int .i64 C.s, .int .i64 C.f] 26)).alloc (by simp) (.cells #[.int .i64 fd, .int .i64 fq] 41)).alloc (by simp <;> omega) (.cells #[.int .i64 0, .int .i64 0, .int .i64 0] 67)
  have L0 := (((L).new (.cells #[.int .i64 C.r, .int .i64 C.m, .slice (some a1) n c1, .slice (some a2) n c2, .slice (some a3) k c3, .slice (some a4) k c4, .int .i64 C.p, .int .i64 C.s, .int .i64 C.f] 26)).new (.cells #[.int .i64 fd, .int .i64 fq] 41)).new (.cells #[.int .i64 0, .int .i64 0, .int .i64 0] 67)
  have gc_0 := (((Blk.new w 26 #[.int .i64 C.r, .int .i64 C.m, .slice (some a1) n c1, .slice (some a2) n c2, .slice (some a3) k c3, .slice (some a4) k c4, .int .i64 C.p, .int .i64 C.s, .int .i64 C.f]).alloc (.cells #[.int .i64 fd, .int .i64 fq] 41)).alloc (.cells #[.int .i64 0, .int .i64 0, .int .i64 0] 67))
  have gs_0 := ((Blk.new' (w := (w).alloc (.cells #[.int .i64 C.r, .int .i64 C.m, .slice (some a1) n c1, .slice (some a2) n c2, .slice (some a3) k c3, .slice (some a4) k c4, .int .i64 C.p, .int .i64 C.s, .int .i64 C.f] 26)) (t := 41) (cs := #[.int .i64 fd, .int .i64 fq]) (g := w.heap.size + 1) (by simp)).alloc (.cells #[.int .i64 0, .int .i64 0, .int .i64 0] 67))
  have gz_0 := (Blk.new' (w := ((w).alloc (.cells #[.int .i64 C.r, .int .i64 C.m, .slice (some a1) n c1, .slice (some a2) n c2, .slice (some a3) k c3, .slice (some a4) k c4, .int .i64 C.p, .int .i64 C.s, .int .i64 C.f] 26)).alloc (.cells #[.int .i64 fd, .int .i64 fq] 41)) (t := 67) (cs := #[.int .i64 0, .int .i64 0, .int .i64 0]) (g := w.heap.size + 1 + 1) (by simp))
  have ok := cf_ok hc
  have hcu := fun (W : World) (h : Ly W W.heap.size C (some a1) (some a2) (some a3) (some a4) n n k k) => currentsM C a1 a2 a3 a4 n k c1 c2 c3 c4 fd fq W h hc
  have bi := curD_bd ok fd
  have bj := curQ_bd ok fq
  have bu := turnU_bd (curD C fd) (curQ C fq) an (by omega) (by omega)
  have bv := turnV_bd (curD C fd) (curQ C fq) an (by omega) (by omega)
  have len := turn_len (curD C fd) (curQ C fq) an
  have s1 := mul_bd (a := curD C fd) (b := curD C fd) (A := 1048576) (B := 1048576) bi bi
  have s2 := mul_bd (a := curQ C fq) (b := curQ C fq) (A := 1048576) (B := 1048576) bj bj
  have s3 := sq_nonneg' (turnU (curD C fd) (curQ C fq) an)
  have s4 := sq_nonneg' (turnV (curD C fd) (curQ C fq) an)
  have c1 := sq_le (x := turnU (curD C fd) (curQ C fq) an) (m := 1073741824) (by omega) (by omega)
  have c2 := sq_le (x := turnV (curD C fd) (curQ C fq) an) (m := 1073741824) (by omega) (by omega)
  clear len s1 s2 s3 s4 bu bv
  have hpb := fun W => pbackM (curD C fd) (curQ C fq) an (by omega) (by omega) W
  have hcb := fun W => cbackM (turnU (curD C fd) (curQ C fq) an) (turnV (curD C fd) (curQ C fq) an) c1 c2 W
  have e1 : phU C fd fq an = turnU (curD C fd) (curQ C fq) an := rfl
  have e2 : phV C fd fq an = turnV (curD C fd) (curQ C fq) an := rfl
  rw [e1, e2]
  clear e1 e2 c1 c2 bi bj
  obtain ⟨U, hU⟩ : ∃ x, turnU (curD C fd) (curQ C fq) an = x := ⟨_, rfl⟩
  obtain ⟨V, hV⟩ : ∃ x, turnV (curD C fd) (curQ C fq) an = x := ⟨_, rfl⟩
  obtain ⟨I, hI⟩ : ∃ x, curD C fd = x := ⟨_, rfl⟩
  obtain ⟨J, hJ⟩ : ∃ x, curQ C fq = x := ⟨_, rfl⟩
  simp only [hU, hV] at hpb hcb ⊢
  obtain ⟨B, hB⟩ : ∃ x, phB U V = x := ⟨_, rfl⟩
  obtain ⟨T, hT⟩ : ∃ x, -U - B = x := ⟨_, rfl⟩
  simp only [hB, hT] at hcb ⊢
  simp only [hI, hJ] at hpb hcu
  have HCU := hide hcu
  have HPB := hide hpb
  have HCB := hide hcb
  clear hcu hpb hcb hU hV hI hJ hB hT
  clear ok hc
  go_enter Tryz.func40, Tryz.ntmps40
  go_wp2_with fail
  with_reducible refine ((unhide HCU) _ L0).mono ?_
  rintro e w1 ⟨rfl, hb1⟩
  have HB1 := HB0.trans (hb1.mono HB0.size)
  have gc_1 := gc_0.below hb1 gc_0.lt
  have lgc_1 := gc_1.lt
  have gs_1 := gs_0.below hb1 gs_0.lt
  have lgs_1 := gs_1.lt
  have gz_1 := gz_0.below hb1 gz_0.lt
  have lgz_1 := gz_1.lt
  have L1 := L0.to hb1
  obtain ⟨gcc0, gcc1, gcc2, gcc3, gcc4, gcc5, gcc6, gcc7, gcc8⟩ := gc_1.c9
  obtain ⟨gsc0, gsc1⟩ := gs_1.c2
  obtain ⟨gzc0, gzc1, gzc2⟩ := gz_1.c3
  have lgc_1p : w.heap.size < w1.heap.size + 1 := by have := gc_1.lt; omega
  have lgs_1p : w.heap.size + 1 < w1.heap.size + 1 := by have := gs_1.lt; omega
  have lgz_1p : w.heap.size + 1 + 1 < w1.heap.size + 1 := by have := gz_1.lt; omega
  go_wp2_with fail
  with_reducible refine ((unhide HPB) _).mono ?_
  rintro e w2 ⟨rfl, hb2⟩
  have HB2 := (HB1.alloc HB1.size _).trans (hb2.mono (by simp; have := HB1.size; omega))
  have gc_2 := (gc_1.alloc _).below hb2 (gc_1.alloc _).lt
  have lgc_2 := gc_2.lt
  have gs_2 := (gs_1.alloc _).below hb2 (gs_1.alloc _).lt
  have lgs_2 := gs_2.lt
  have gz_2 := (gz_1.alloc _).below hb2 (gz_1.alloc _).lt
  have lgz_2 := gz_2.lt
  have gi_2 := (Blk.new w1 39 #[.int .i64 I, .int .i64 J]).below hb2 (Blk.new w1 39 #[.int .i64 I, .int .i64 J]).lt
  have lgi_2 := gi_2.lt
  have L2 := (L1.new _).to hb2
  clear gcc0 gcc1 gcc2 gcc3 gcc4 gcc5 gcc6 gcc7 gcc8 gsc0 gsc1 gzc0 gzc1 gzc2
  obtain ⟨gcc0, gcc1, gcc2, gcc3, gcc4, gcc5, gcc6, gcc7, gcc8⟩ := gc_2.c9
  obtain ⟨gsc0, gsc1⟩ := gs_2.c2
  obtain ⟨gzc0, gzc1, gzc2⟩ := gz_2.c3
  obtain ⟨gic0, gic1⟩ := gi_2.c2
  go_wp2_with fail
  with_reducible refine ((unhide HCB) _).mono ?_
  rintro e w3 ⟨rfl, hb3⟩
  have HB3 := HB2.trans (hb3.mono HB2.size)
  have gc_3 := gc_2.below hb3 gc_2.lt
  have lgc_3 := gc_3.lt
  have gs_3 := gs_2.below hb3 gs_2.lt
  have lgs_3 := gs_3.lt
  have gz_3 := gz_2.below hb3 gz_2.lt
  have lgz_3 := gz_3.lt
  have gi_3 := gi_2.below hb3 gi_2.lt
  have lgi_3 := gi_3.lt
  have L3 := L2.to hb3
  clear gcc0 gcc1 gcc2 gcc3 gcc4 gcc5 gcc6 gcc7 gcc8 gsc0 gsc1 gzc0 gzc1 gzc2 gic0 gic1
  obtain ⟨gcc0, gcc1, gcc2, gcc3, gcc4, gcc5, gcc6, gcc7, gcc8⟩ := gc_3.c9
  obtain ⟨gsc0, gsc1⟩ := gs_3.c2
  obtain ⟨gzc0, gzc1, gzc2⟩ := gz_3.c3
  obtain ⟨gic0, gic1⟩ := gi_3.c2
  have f0 := gz_3.frozen 0
  have f1 := gz_3.frozen 1
  have f2 := gz_3.frozen 2
  go_wp2
  refine bodyPost_ret (ret_cell_tmp rfl rfl (load_ints3 (((gz_3.set_ 0 _).set_ 1 _).set_ 2 _))) rfl ⟨rfl, ?_⟩
  exact ((HB3.setCell (by simp; try omega) _).setCell (by simp; try omega) _).setCell (by simp; try omega) _
set_option maxRecDepth 100000 in
set_option maxHeartbeats 3200000 in
theorem phasesR (C : Cf) (a1 a2 a3 a4 : Addr) (n k c1 c2 c3 c4 : Nat) (fd fq an : Int) (w : World) (L : Ly w w.heap.size C (some a1) (some a2) (some a3) (some a4) n n k k) (ok : CfOk C) :
    Calls Tryz.prog 52 #[.agg #[.int .i64 C.r, .int .i64 C.m, .slice (some a1) n c1, .slice (some a2) n c2, .slice (some a3) k c3, .slice (some a4) k c4, .int .i64 C.p, .int .i64 C.s, .int .i64 C.f], .agg #[.int .i64 fd, .int .i64 fq], .int .i64 an] w fun e w' => e = .returned (.agg #[.int .i64 (phU C fd fq an), .int .i64 (phB (phU C fd fq an) (phV C fd fq an)), .int .i64 (-phU C fd fq an - phB (phU C fd fq an) (phV C fd fq an))]) ∧ Below w.heap.size w w' := by
  have HB0 := (((Below.refl w.heap.size w).alloc (Nat.le_refl _) (.cells #[.int .i64 C.r, .int .i64 C.m, .slice (some a1) n c1, .slice (some a2) n c2, .slice (some a3) k c3, .slice (some a4) k c4, .int .i64 C.p, .int .i64 C.s, .int .i64 C.f] 26)).alloc (by simp) (.cells #[.int .i64 fd, .int .i64 fq] 41)).alloc (by simp <;> omega) (.cells #[.int .i64 0, .int .i64 0, .int .i64 0] 67)
  have L0 := (((L).new (.cells #[.int .i64 C.r, .int .i64 C.m, .slice (some a1) n c1, .slice (some a2) n c2, .slice (some a3) k c3, .slice (some a4) k c4, .int .i64 C.p, .int .i64 C.s, .int .i64 C.f] 26)).new (.cells #[.int .i64 fd, .int .i64 fq] 41)).new (.cells #[.int .i64 0, .int .i64 0, .int .i64 0] 67)
  have gc_0 := (((Blk.new w 26 #[.int .i64 C.r, .int .i64 C.m, .slice (some a1) n c1, .slice (some a2) n c2, .slice (some a3) k c3, .slice (some a4) k c4, .int .i64 C.p, .int .i64 C.s, .int .i64 C.f]).alloc (.cells #[.int .i64 fd, .int .i64 fq] 41)).alloc (.cells #[.int .i64 0, .int .i64 0, .int .i64 0] 67))
  have gs_0 := ((Blk.new' (w := (w).alloc (.cells #[.int .i64 C.r, .int .i64 C.m, .slice (some a1) n c1, .slice (some a2) n c2, .slice (some a3) k c3, .slice (some a4) k c4, .int .i64 C.p, .int .i64 C.s, .int .i64 C.f] 26)) (t := 41) (cs := #[.int .i64 fd, .int .i64 fq]) (g := w.heap.size + 1) (by simp)).alloc (.cells #[.int .i64 0, .int .i64 0, .int .i64 0] 67))
  have gz_0 := (Blk.new' (w := ((w).alloc (.cells #[.int .i64 C.r, .int .i64 C.m, .slice (some a1) n c1, .slice (some a2) n c2, .slice (some a3) k c3, .slice (some a4) k c4, .int .i64 C.p, .int .i64 C.s, .int .i64 C.f] 26)).alloc (.cells #[.int .i64 fd, .int .i64 fq] 41)) (t := 67) (cs := #[.int .i64 0, .int .i64 0, .int .i64 0]) (g := w.heap.size + 1 + 1) (by simp))
  have hcu := fun (W : World) (h : Ly W W.heap.size C (some a1) (some a2) (some a3) (some a4) n n k k) => currentsR C a1 a2 a3 a4 n k c1 c2 c3 c4 fd fq W h ok
  have bi := curD_bd ok fd
  have bj := curQ_bd ok fq
  have bu := turnU_bd (curD C fd) (curQ C fq) an (by omega) (by omega)
  have bv := turnV_bd (curD C fd) (curQ C fq) an (by omega) (by omega)
  have len := turn_len (curD C fd) (curQ C fq) an
  have s1 := mul_bd (a := curD C fd) (b := curD C fd) (A := 1048576) (B := 1048576) bi bi
  have s2 := mul_bd (a := curQ C fq) (b := curQ C fq) (A := 1048576) (B := 1048576) bj bj
  have s3 := sq_nonneg' (turnU (curD C fd) (curQ C fq) an)
  have s4 := sq_nonneg' (turnV (curD C fd) (curQ C fq) an)
  have c1 := sq_le (x := turnU (curD C fd) (curQ C fq) an) (m := 1073741824) (by omega) (by omega)
  have c2 := sq_le (x := turnV (curD C fd) (curQ C fq) an) (m := 1073741824) (by omega) (by omega)
  clear len s1 s2 s3 s4 bu bv
  have hpb := fun W => pbackR (curD C fd) (curQ C fq) (an.tmod 65536) (by omega) (by omega) W
  simp only [turnU_mod (curD C fd) (curQ C fq) (tmod_mod an), turnV_mod (curD C fd) (curQ C fq) (tmod_mod an)] at hpb
  have hcb := fun W => cbackR (turnU (curD C fd) (curQ C fq) an) (turnV (curD C fd) (curQ C fq) an) c1 c2 W
  have e1 : phU C fd fq an = turnU (curD C fd) (curQ C fq) an := rfl
  have e2 : phV C fd fq an = turnV (curD C fd) (curQ C fq) an := rfl
  rw [e1, e2]
  clear e1 e2 c1 c2 bi bj
  obtain ⟨U, hU⟩ : ∃ x, turnU (curD C fd) (curQ C fq) an = x := ⟨_, rfl⟩
  obtain ⟨V, hV⟩ : ∃ x, turnV (curD C fd) (curQ C fq) an = x := ⟨_, rfl⟩
  obtain ⟨I, hI⟩ : ∃ x, curD C fd = x := ⟨_, rfl⟩
  obtain ⟨J, hJ⟩ : ∃ x, curQ C fq = x := ⟨_, rfl⟩
  simp only [hU, hV] at hpb hcb ⊢
  obtain ⟨B, hB⟩ : ∃ x, phB U V = x := ⟨_, rfl⟩
  obtain ⟨T, hT⟩ : ∃ x, -U - B = x := ⟨_, rfl⟩
  simp only [hB, hT] at hcb ⊢
  simp only [hI, hJ] at hpb hcu
  have tb := tmod_bd an
  obtain ⟨tm, htm⟩ : ∃ x, an.tmod 65536 = x := ⟨_, rfl⟩
  simp only [htm] at hpb tb
  have e5 : wrap64 tm = tm := by unfold wrap64; omega
  have HCU := hide hcu
  have HPB := hide hpb
  have HCB := hide hcb
  clear hcu hpb hcb hU hV hI hJ hB hT
  clear ok
  go_enter Tryz.func52, Tryz.ntmps52
  go_wp2_with fail
  with_reducible refine ((unhide HCU) _ L0).mono ?_
  rintro e w1 ⟨rfl, hb1⟩
  have HB1 := HB0.trans (hb1.mono HB0.size)
  have gc_1 := gc_0.below hb1 gc_0.lt
  have lgc_1 := gc_1.lt
  have gs_1 := gs_0.below hb1 gs_0.lt
  have lgs_1 := gs_1.lt
  have gz_1 := gz_0.below hb1 gz_0.lt
  have lgz_1 := gz_1.lt
  have L1 := L0.to hb1
  obtain ⟨gcc0, gcc1, gcc2, gcc3, gcc4, gcc5, gcc6, gcc7, gcc8⟩ := gc_1.c9
  obtain ⟨gsc0, gsc1⟩ := gs_1.c2
  obtain ⟨gzc0, gzc1, gzc2⟩ := gz_1.c3
  have lgc_1p : w.heap.size < w1.heap.size + 1 := by have := gc_1.lt; omega
  have lgs_1p : w.heap.size + 1 < w1.heap.size + 1 := by have := gs_1.lt; omega
  have lgz_1p : w.heap.size + 1 + 1 < w1.heap.size + 1 := by have := gz_1.lt; omega
  go_wp2_with fail
  with_reducible refine ((unhide HPB) _).mono ?_
  rintro e w2 ⟨rfl, hb2⟩
  have HB2 := (HB1.alloc HB1.size _).trans (hb2.mono (by simp; have := HB1.size; omega))
  have gc_2 := (gc_1.alloc _).below hb2 (gc_1.alloc _).lt
  have lgc_2 := gc_2.lt
  have gs_2 := (gs_1.alloc _).below hb2 (gs_1.alloc _).lt
  have lgs_2 := gs_2.lt
  have gz_2 := (gz_1.alloc _).below hb2 (gz_1.alloc _).lt
  have lgz_2 := gz_2.lt
  have gi_2 := (Blk.new w1 39 #[.int .i64 I, .int .i64 J]).below hb2 (Blk.new w1 39 #[.int .i64 I, .int .i64 J]).lt
  have lgi_2 := gi_2.lt
  have L2 := (L1.new _).to hb2
  clear gcc0 gcc1 gcc2 gcc3 gcc4 gcc5 gcc6 gcc7 gcc8 gsc0 gsc1 gzc0 gzc1 gzc2
  obtain ⟨gcc0, gcc1, gcc2, gcc3, gcc4, gcc5, gcc6, gcc7, gcc8⟩ := gc_2.c9
  obtain ⟨gsc0, gsc1⟩ := gs_2.c2
  obtain ⟨gzc0, gzc1, gzc2⟩ := gz_2.c3
  obtain ⟨gic0, gic1⟩ := gi_2.c2
  go_wp2_with fail
  with_reducible refine ((unhide HCB) _).mono ?_
  rintro e w3 ⟨rfl, hb3⟩
  have HB3 := HB2.trans (hb3.mono HB2.size)
  have gc_3 := gc_2.below hb3 gc_2.lt
  have lgc_3 := gc_3.lt
  have gs_3 := gs_2.below hb3 gs_2.lt
  have lgs_3 := gs_3.lt
  have gz_3 := gz_2.below hb3 gz_2.lt
  have lgz_3 := gz_3.lt
  have gi_3 := gi_2.below hb3 gi_2.lt
  have lgi_3 := gi_3.lt
  have L3 := L2.to hb3
  clear gcc0 gcc1 gcc2 gcc3 gcc4 gcc5 gcc6 gcc7 gcc8 gsc0 gsc1 gzc0 gzc1 gzc2 gic0 gic1
  obtain ⟨gcc0, gcc1, gcc2, gcc3, gcc4, gcc5, gcc6, gcc7, gcc8⟩ := gc_3.c9
  obtain ⟨gsc0, gsc1⟩ := gs_3.c2
  obtain ⟨gzc0, gzc1, gzc2⟩ := gz_3.c3
  obtain ⟨gic0, gic1⟩ := gi_3.c2
  have lz' : w.heap.size + 1 + 1 < w3.heap.size + 1 := by have := gz_3.lt; omega
  have f0 := gz_3.frozen 0
  have f1 := gz_3.frozen 1
  have f2 := gz_3.frozen 2
  go_wp2
  refine bodyPost_ret (ret_cell rfl rfl (load_ints3 ((((gz_3.set_ 0 _).set_ 1 _).set_ 2 _).alloc _))) rfl ⟨rfl, ?_⟩
  exact (((HB3.setCell (by simp; try omega) _).setCell (by simp; try omega) _).setCell (by simp; try omega) _).alloc (by simp; have := HB3.size; omega) _
end Go.Proofs.YtpfkiohknpeifaaGreat
