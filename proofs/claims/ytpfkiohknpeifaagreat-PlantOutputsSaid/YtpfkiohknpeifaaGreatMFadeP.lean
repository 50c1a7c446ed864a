/- Plain facts: curves rise; what a tick with all switches off does to a flux. -/
import Derived.Test.YtpfkiohknpeifaaGreatMPhase
import Derived.Test.YtpfkiohknpeifaaGreatMOff
namespace Go.Proofs.YtpfkiohknpeifaaGreat
open Go.RowKit

theorem seg_mono {X Y : List Int} (h : CvOk X Y) {i : Nat} {x y : Int} (hi : i < X.length) (hi1 : 1 ≤ i) (hxy : x ≤ y) : seg X Y i x ≤ seg X Y i y := by
  have h3 := h.inc (i - 1) (by omega)
  rw [show i - 1 + 1 = i by omega] at h3
  unfold seg
  refine Int.tdiv_le_tdiv (by omega) ?_
  unfold segN
  have := Int.mul_le_mul_of_nonneg_left (show x - g X (i - 1) ≤ y - g X (i - 1) by omega) (show 0 ≤ g Y i - g Y (i - 1) by omega)
  omega
/-- A curve never falls. -/
theorem at_mono {X Y : List Int} (h : CvOk X Y) {x y : Int} (hxy : x ≤ y) : cvAt X Y x ≤ cvAt X Y y := by
  have h2 := h.two
  by_cases a1 : x ≤ g X 0
  · rw [at_first a1]; exact (at_bd h y).1
  by_cases a2 : g X (X.length - 1) ≤ y
  · rw [at_last h a2]; exact (at_bd h x).2
  have hm := (mono_le h (i := 0) (j := X.length - 1) (by omega) (by omega)).1
  obtain ⟨i, i1, i2, i3, i4⟩ := find_in h (x := x) (by omega) (by omega)
  obtain ⟨j, j1, j2, j3, j4⟩ := find_in h (x := y) (by omega) (by omega)
  rw [at_in h i2 i1 i3 i4, at_in h j2 j1 j3 j4]
  by_cases e : i = j
  · subst e; exact seg_mono h i2 i1 hxy
  · have hij : i < j := by
      refine Nat.lt_of_not_le fun hle => ?_
      have := (mono_le h (i := j) (j := i - 1) (by omega) (by omega)).1
      omega
    have b1 := (seg_bd h i2 i1 (by omega) i4).2
    have b2 := (seg_bd h j2 j1 (by omega) j4).1
    have b3 := (mono_le h (i := i) (j := j - 1) (by omega) (by omega)).2
    omega
theorem upN_le {n m : Nat} (h : n ≤ m * m) : upN n ≤ m := by
  have h1 := (sqN_spec n).1
  have h2 : sqN n ≤ m := by
    refine Nat.le_of_not_lt fun h3 => ?_
    have : (m + 1) * (m + 1) ≤ sqN n * sqN n := Nat.mul_le_mul h3 h3
    have : (m + 1) * (m + 1) = m * m + 2 * m + 1 := by grind
    omega
  unfold upN
  split
  · rename_i h3
    refine Nat.lt_of_le_of_ne h2 fun h4 => ?_
    rw [h4] at h3
    omega
  · exact h2
theorem len_le {x y m : Int} (hm : 0 ≤ m) (h : x * x + y * y ≤ m * m) : ((lenI x y : Nat) : Int) ≤ m := by
  have e : ((m.toNat * m.toNat : Nat) : Int) = m * m := by rw [Int.natCast_mul, Int.toNat_of_nonneg hm]
  have := upN_le (n := (x * x + y * y).toNat) (m := m.toNat) (by omega)
  unfold lenI
  omega
theorem len_zero {x y : Int} (h : ((lenI x y : Nat) : Int) = 0) : x = 0 ∧ y = 0 := by
  have h1 := len_ge x y
  rw [h] at h1
  have h2 := sq_nonneg' x
  have h3 := sq_nonneg' y
  have h4 := sq_le (x := x) (m := 0) (by omega) (by omega)
  have h5 := sq_le (x := y) (m := 0) (by omega) (by omega)
  omega
/-- The deviation behind a tick with all switches off. -/
def nxD (C : Cf) (fd fq : Int) : Int := if lenC C fd fq ≤ C.f then 0 else (devD C fd * (lenC C fd fq - C.f)).tdiv (lenC C fd fq)
def nxQ (C : Cf) (fd fq : Int) : Int := if lenC C fd fq ≤ C.f then 0 else (devQ C fq * (lenC C fd fq - C.f)).tdiv (lenC C fd fq)
theorem nxD_sh {C : Cf} (ok : CfOk C) (fd fq : Int) : (devD C fd ≤ 0 → devD C fd ≤ nxD C fd fq ∧ nxD C fd fq ≤ 0) ∧ (0 ≤ devD C fd → 0 ≤ nxD C fd fq ∧ nxD C fd fq ≤ devD C fd) := by
  have bl := lenC_bd ok fd fq
  have bf := ok.f
  unfold nxD
  split
  · omega
  · exact shrink (x := devD C fd) (a := lenC C fd fq - C.f) (b := lenC C fd fq) (by omega) (by omega) (by omega)
theorem nxQ_sh {C : Cf} (ok : CfOk C) (fd fq : Int) : (devQ C fq ≤ 0 → devQ C fq ≤ nxQ C fd fq ∧ nxQ C fd fq ≤ 0) ∧ (0 ≤ devQ C fq → 0 ≤ nxQ C fd fq ∧ nxQ C fd fq ≤ devQ C fq) := by
  have bl := lenC_bd ok fd fq
  have bf := ok.f
  unfold nxQ
  split
  · omega
  · exact shrink (x := devQ C fq) (a := lenC C fd fq - C.f) (b := lenC C fd fq) (by omega) (by omega) (by omega)
theorem dev_near {X Y : List Int} (ok : McOk X Y) {x y : Int} (h1 : x ≤ 0 → x ≤ y ∧ y ≤ 0) (h2 : 0 ≤ x → 0 ≤ y ∧ y ≤ x) (hx : g X 0 ≤ x ∧ x ≤ g X (X.length - 1)) : g X 0 ≤ y ∧ y ≤ g X (X.length - 1) := by
  have e := mc_ends ok
  rcases Int.le_total x 0 with h | h
  · have := h1 h; omega
  · have := h2 h; omega
theorem devD_in {C : Cf} (ok : CfOk C) (fd : Int) : g C.dx 0 ≤ devD C fd ∧ devD C fd ≤ g C.dx (C.dx.length - 1) := inX_in ok.d _
theorem devQ_in {C : Cf} (ok : CfOk C) (fq : Int) : g C.qx 0 ≤ devQ C fq ∧ devQ C fq ≤ g C.qx (C.qx.length - 1) := inX_in ok.q _
theorem dev_ofD {C : Cf} (ok : CfOk C) (fd fq : Int) : devD C (ofD C fd fq) = nxD C fd fq := by
  have hs := nxD_sh ok fd fq
  have hn := dev_near ok.d hs.1 hs.2 (devD_in ok fd)
  rw [devD_far ok]
  have e : ofD C fd fq - C.m = nxD C fd fq := by
    unfold ofD nxD at *
    split
    · omega
    · rename_i hle
      rw [if_neg hle] at hn
      rw [inX_same hn.1 hn.2]
      omega
  rw [e]
  exact inX_same hn.1 hn.2
theorem dev_ofQ {C : Cf} (ok : CfOk C) (fd fq : Int) : devQ C (ofQ C fd fq) = nxQ C fd fq := by
  have hs := nxQ_sh ok fd fq
  have hn := dev_near ok.q hs.1 hs.2 (devQ_in ok fq)
  rw [devQ_far ok]
  have e : ofQ C fd fq = nxQ C fd fq := by
    unfold ofQ nxQ at *
    split
    · rfl
    · rename_i hle
      rw [if_neg hle] at hn
      exact inX_same hn.1 hn.2
  rw [e]
  exact inX_same hn.1 hn.2
/-- No current grows or changes its sign. -/
theorem fade_cur {X Y : List Int} (ok : McOk X Y) {x y : Int} (h1 : x ≤ 0 → x ≤ y ∧ y ≤ 0) (h2 : 0 ≤ x → 0 ≤ y ∧ y ≤ x) :
    (cvAt X Y x ≤ 0 → cvAt X Y x ≤ cvAt X Y y ∧ cvAt X Y y ≤ 0) ∧ (0 ≤ cvAt X Y x → 0 ≤ cvAt X Y y ∧ cvAt X Y y ≤ cvAt X Y x) := by
  have z := ok.zero
  rcases Int.le_total x 0 with h | h
  · have h3 := h1 h
    have m1 := at_mono ok.ok h3.1
    have m2 := at_mono ok.ok h3.2
    omega
  · have h3 := h2 h
    have m1 := at_mono ok.ok h3.1
    have m2 := at_mono ok.ok h3.2
    omega
theorem fadeD {C : Cf} (ok : CfOk C) (fd fq : Int) : (curD C fd ≤ 0 → curD C fd ≤ curD C (ofD C fd fq) ∧ curD C (ofD C fd fq) ≤ 0) ∧ (0 ≤ curD C fd → 0 ≤ curD C (ofD C fd fq) ∧ curD C (ofD C fd fq) ≤ curD C fd) := by
  have hs := nxD_sh ok fd fq
  have := fade_cur ok.d hs.1 hs.2
  rw [← dev_ofD ok fd fq] at this
  exact this
theorem fadeQ {C : Cf} (ok : CfOk C) (fd fq : Int) : (curQ C fq ≤ 0 → curQ C fq ≤ curQ C (ofQ C fd fq) ∧ curQ C (ofQ C fd fq) ≤ 0) ∧ (0 ≤ curQ C fq → 0 ≤ curQ C (ofQ C fd fq) ∧ curQ C (ofQ C fd fq) ≤ curQ C fq) := by
  have hs := nxQ_sh ok fd fq
  have := fade_cur ok.q hs.1 hs.2
  rw [← dev_ofQ ok fd fq] at this
  exact this
/-- The length shrinks by Free. -/
theorem fade_len {C : Cf} (ok : CfOk C) (fd fq : Int) : lenC C (ofD C fd fq) (ofQ C fd fq) = 0 ∨ lenC C (ofD C fd fq) (ofQ C fd fq) ≤ lenC C fd fq - C.f := by
  have bl := lenC_bd ok fd fq
  have bf := ok.f
  have hg := len_ge (devD C fd) (devQ C fq)
  show ((lenI (devD C (ofD C fd fq)) (devQ C (ofQ C fd fq)) : Nat) : Int) = 0 ∨ ((lenI (devD C (ofD C fd fq)) (devQ C (ofQ C fd fq)) : Nat) : Int) ≤ _
  rw [dev_ofD ok, dev_ofQ ok]
  by_cases h : lenC C fd fq ≤ C.f
  · left
    unfold nxD nxQ
    rw [if_pos h, if_pos h]
    decide
  · right
    refine len_le (by omega) ?_
    unfold nxD nxQ
    rw [if_neg h, if_neg h]
    have hg' : devD C fd * devD C fd + devQ C fq * devQ C fq ≤ lenC C fd fq * lenC C fd fq := hg
    have t1 := tdiv_sq (devD C fd * (lenC C fd fq - C.f)) (d := lenC C fd fq) (by omega)
    have t2 := tdiv_sq (devQ C fq * (lenC C fd fq - C.f)) (d := lenC C fd fq) (by omega)
    generalize (devD C fd * (lenC C fd fq - C.f)).tdiv (lenC C fd fq) = x at *
    generalize (devQ C fq * (lenC C fd fq - C.f)).tdiv (lenC C fd fq) = y at *
    generalize devD C fd = D at *
    generalize devQ C fq = Q at *
    have hm : 0 < lenC C fd fq := by omega
    generalize lenC C fd fq = m at *
    obtain ⟨r, hr⟩ : ∃ r, m - C.f = r := ⟨_, rfl⟩
    rw [hr] at t1 t2 ⊢
    have a1 := Int.mul_le_mul_of_nonneg_right hg' (sq_nonneg' r)
    have b1 : (D * D + Q * Q) * (r * r) = D * r * (D * r) + Q * r * (Q * r) := by grind
    have b2 : x * m * (x * m) + y * m * (y * m) = (m * m) * (x * x + y * y) := by grind
    refine Int.le_of_mul_le_mul_left (a := m * m) ?_ (Int.mul_pos hm hm)
    omega
theorem cur_zero {C : Cf} (ok : CfOk C) {fd fq : Int} (h : lenC C fd fq ≤ 0) : curD C fd = 0 ∧ curQ C fq = 0 := by
  have bl := lenC_bd ok fd fq
  have hz := len_zero (x := devD C fd) (y := devQ C fq) (by have : lenC C fd fq = ((lenI (devD C fd) (devQ C fq) : Nat) : Int) := rfl; omega)
  constructor
  · show cvAt C.dx C.dy (devD C fd) = 0
    rw [hz.1]; exact ok.d.zero
  · show cvAt C.qx C.qy (devQ C fq) = 0
    rw [hz.2]; exact ok.q.zero
theorem mul_nn {x y : Int} (h1 : x ≤ 0 → x ≤ y ∧ y ≤ 0) (h2 : 0 ≤ x → 0 ≤ y ∧ y ≤ x) : 0 ≤ y * x := by
  rcases Int.le_total x 0 with h | h
  · exact Int.mul_nonneg_of_nonpos_of_nonpos (h1 h).2 h
  · exact Int.mul_nonneg (h2 h).1 h
/-- How many ticks are enough. -/
theorem need_mul {L f n : Int} (hf : 0 < f) (h : (L + f - 1).tdiv f ≤ n) : L ≤ n * f := by
  have h1 : (L + f - 1).tdiv f * f + (L + f - 1).tmod f = L + f - 1 := Int.tdiv_mul_add_tmod _ _
  have h2 := Int.tmod_lt_of_pos (L + f - 1) hf
  have h3 := Int.mul_le_mul_of_nonneg_right h (show 0 ≤ f by omega)
  omega

end Go.Proofs.YtpfkiohknpeifaaGreat
