/- Plain facts: no curve rises by more than its greatest slope; what a tick does to a current. -/
import Derived.Test.YtpfkiohknpeifaaMRise
import Derived.Test.YtpfkiohknpeifaaMStep
import Derived.Test.YtpfkiohknpeifaaMPhase
namespace Go.Proofs.Ytpfkiohknpeifaa
open Go.RowKit

/-- The steepest piece. -/
theorem steepest {X Y : List Int} (ok : CvOk X Y) : ∀ n, 2 ≤ n → n ≤ X.length → ∃ m, 1 ≤ m ∧ m < n ∧ ∀ i, 1 ≤ i → i < n → (g Y i - g Y (i - 1)) * (g X m - g X (m - 1)) ≤ (g Y m - g Y (m - 1)) * (g X i - g X (i - 1)) := by
  intro n h2 hn
  induction n with
  | zero => omega
  | succ n ih =>
    by_cases e : n = 1
    · subst e
      refine ⟨1, by omega, by omega, fun i h1 h3 => ?_⟩
      obtain rfl : i = 1 := by omega
      exact Int.le_refl _
    · obtain ⟨m, m1, m2, hm⟩ := ih (by omega) (by omega)
      have dm := ok.inc (m - 1) (by omega)
      rw [show m - 1 + 1 = m by omega] at dm
      have dn := ok.inc (n - 1) (by omega)
      rw [show n - 1 + 1 = n by omega] at dn
      by_cases c : (g Y n - g Y (n - 1)) * (g X m - g X (m - 1)) ≤ (g Y m - g Y (m - 1)) * (g X n - g X (n - 1))
      · refine ⟨m, m1, by omega, fun i h1 h3 => ?_⟩
        by_cases e2 : i = n
        · subst e2; exact c
        · exact hm i h1 (by omega)
      · refine ⟨n, by omega, by omega, fun i h1 h3 => ?_⟩
        by_cases e2 : i = n
        · subst e2; exact Int.le_refl _
        · have a1 := hm i h1 (by omega)
          have di := ok.inc (i - 1) (by omega)
          rw [show i - 1 + 1 = i by omega] at di
          generalize g Y i - g Y (i - 1) = yi at *
          obtain ⟨xi, hxi⟩ : ∃ x, g X i - g X (i - 1) = x := ⟨_, rfl⟩
          have hxi0 : 0 < xi := by omega
          rw [hxi] at a1 ⊢
          obtain ⟨ym, hym⟩ : ∃ x, g Y m - g Y (m - 1) = x := ⟨_, rfl⟩
          obtain ⟨xm, hxm⟩ : ∃ x, g X m - g X (m - 1) = x := ⟨_, rfl⟩
          obtain ⟨yn, hyn⟩ : ∃ x, g Y n - g Y (n - 1) = x := ⟨_, rfl⟩
          obtain ⟨xn, hxn⟩ : ∃ x, g X n - g X (n - 1) = x := ⟨_, rfl⟩
          have hxm0 : 0 < xm := by omega
          have hxn0 : 0 < xn := by omega
          rw [hym, hxm] at a1
          rw [hyn, hxm, hym, hxn] at c
          rw [hxn, hyn]
          have b1 := Int.mul_le_mul_of_nonneg_right a1 (show 0 ≤ xn by omega)
          have b2 := Int.mul_le_mul_of_nonneg_right (show ym * xn ≤ yn * xm by omega) (show 0 ≤ xi by omega)
          have e3 : yi * xm * xn = yi * xn * xm := by grind
          have e4 : ym * xi * xn = ym * xn * xi := by grind
          have e5 : yn * xm * xi = yn * xi * xm := by grind
          refine Int.le_of_mul_le_mul_right (a := xm) ?_ hxm0
          omega
theorem slope_sum {X Y : List Int} {p q : Int} (hs : ∀ i, 1 ≤ i → i < X.length → (g Y i - g Y (i - 1)) * q ≤ p * (g X i - g X (i - 1))) {a : Nat} : ∀ {b : Nat}, a ≤ b → b < X.length → (g Y b - g Y a) * q ≤ p * (g X b - g X a)
  | 0, h, _ => by obtain rfl : a = 0 := by omega
                  simp
  | b + 1, h, hb => by
    by_cases e : a = b + 1
    · subst e; simp
    · have h1 := slope_sum hs (a := a) (b := b) (by omega) (by omega)
      have h2 := hs (b + 1) (by omega) hb
      rw [show b + 1 - 1 = b by omega] at h2
      have e1 : (g Y (b + 1) - g Y a) * q = (g Y (b + 1) - g Y b) * q + (g Y b - g Y a) * q := by grind
      have e2 : p * (g X (b + 1) - g X a) = p * (g X (b + 1) - g X b) + p * (g X b - g X a) := by grind
      omega
/-- A number within a curve's range lies on a piece. -/
theorem on_piece {X Y : List Int} (ok : CvOk X Y) {x : Int} (h0 : g X 0 ≤ x) (h1 : x ≤ g X (X.length - 1)) : ∃ i, 1 ≤ i ∧ i < X.length ∧ g X (i - 1) ≤ x ∧ x ≤ g X i ∧ cvAt X Y x = seg X Y i x := by
  have h2 := ok.two
  by_cases e : x = g X 0
  · have d := ok.inc 0 (by omega)
    refine ⟨1, by omega, by omega, ?_, ?_, ?_⟩
    · rw [show 1 - 1 = 0 from rfl]; omega
    · rw [show 0 + 1 = 1 from rfl] at d; omega
    · exact at_from ok (by omega) (by omega) (by rw [show 1 - 1 = 0 from rfl]; omega) (by rw [show 0 + 1 = 1 from rfl] at d; omega)
  by_cases e2 : x = g X (X.length - 1)
  · have d := ok.inc (X.length - 2) (by omega)
    rw [show X.length - 2 + 1 = X.length - 1 by omega] at d
    refine ⟨X.length - 1, by omega, by omega, ?_, by omega, ?_⟩
    · rw [show X.length - 1 - 1 = X.length - 2 by omega]; omega
    · exact at_in ok (by omega) (by omega) (by rw [show X.length - 1 - 1 = X.length - 2 by omega]; omega) (by omega)
  · obtain ⟨i, i1, i2, i3, i4⟩ := find_in ok (x := x) (by omega) (by omega)
    exact ⟨i, i1, i2, by omega, i4, at_in ok i2 i1 i3 i4⟩
/-- Two truncated fractions: their difference is less than 1 above that of the fractions. -/
theorem trunc_diff {N1 D1 N2 D2 : Int} (h1 : 0 < D1) (h2 : 0 < D2) (hle : N1 * D2 ≤ N2 * D1) : (N2.tdiv D2 - N1.tdiv D1 - 1) * (D1 * D2) < N2 * D1 - N1 * D2 := by
  have a1 : N1.tdiv D1 * D1 + N1.tmod D1 = N1 := Int.tdiv_mul_add_tmod N1 D1
  have a2 : N2.tdiv D2 * D2 + N2.tmod D2 = N2 := Int.tdiv_mul_add_tmod N2 D2
  have l1 := Int.tmod_lt_of_pos N1 h1
  have l2 := Int.tmod_lt_of_pos N2 h2
  have g1 : -D1 < N1.tmod D1 := by
    have := Int.tmod_lt_of_pos (-N1) h1
    rw [Int.neg_tmod] at this
    omega
  have g2 : -D2 < N2.tmod D2 := by
    have := Int.tmod_lt_of_pos (-N2) h2
    rw [Int.neg_tmod] at this
    omega
  have s1 : 0 ≤ N1 → 0 ≤ N1.tmod D1 := fun h => Int.tmod_nonneg D1 h
  have s2 : 0 ≤ N2 → 0 ≤ N2.tmod D2 := fun h => Int.tmod_nonneg D2 h
  have t1 : N1 ≤ 0 → N1.tmod D1 ≤ 0 := fun h => by
    have := Int.tmod_nonneg D1 (show 0 ≤ -N1 by omega)
    rw [Int.neg_tmod] at this
    omega
  have sg : N2 < 0 → N1 < 0 := fun h => by
    refine Int.not_le.1 fun h3 => ?_
    have b1 := Int.mul_nonneg h3 (show 0 ≤ D2 by omega)
    have b2 := Int.mul_neg_of_neg_of_pos h h1
    omega
  generalize N1.tmod D1 = r1 at *
  generalize N2.tmod D2 = r2 at *
  generalize N1.tdiv D1 = q1 at *
  generalize N2.tdiv D2 = q2 at *
  have e : N2 * D1 - N1 * D2 = (q2 - q1 - 1) * (D1 * D2) + (r2 * D1 - r1 * D2 + D1 * D2) := by rw [← a1, ← a2]; grind
  have k : 0 < r2 * D1 - r1 * D2 + D1 * D2 := by
    by_cases hN : N2 < 0
    · have hr := t1 (by have := sg hN; omega)
      have p1 : 0 < (r2 + D2) * D1 := Int.mul_pos (by omega) h1
      have p2 : 0 ≤ (-r1) * D2 := Int.mul_nonneg (by omega) (by omega)
      have e1 : r2 * D1 - r1 * D2 + D1 * D2 = (r2 + D2) * D1 + (-r1) * D2 := by grind
      omega
    · have hr := s2 (by omega)
      have p1 : 0 < (D1 - r1) * D2 := Int.mul_pos (by omega) h2
      have p2 : 0 ≤ r2 * D1 := Int.mul_nonneg hr (by omega)
      have e1 : r2 * D1 - r1 * D2 + D1 * D2 = r2 * D1 + (D1 - r1) * D2 := by grind
      omega
  omega
/-- A curve rises by no more than its steepest slope. -/
theorem lip {X Y : List Int} (ok : CvOk X Y) {x y : Int} (h0 : g X 0 ≤ x) (hxy : x ≤ y) (h1 : y ≤ g X (X.length - 1)) {p q : Int} (hq : 0 < q)
    (hs : ∀ i, 1 ≤ i → i < X.length → (g Y i - g Y (i - 1)) * q ≤ p * (g X i - g X (i - 1))) : (cvAt X Y y - cvAt X Y x - 1) * q < p * (y - x) ∨ cvAt X Y y = cvAt X Y x := by
  obtain ⟨i, i1, i2, i3, i4, ei⟩ := on_piece ok h0 (by omega)
  obtain ⟨j, j1, j2, j3, j4, ej⟩ := on_piece ok (x := y) (by omega) h1
  by_cases hne : x = y
  · subst hne; exact .inr rfl
  left
  have di := ok.inc (i - 1) (by omega)
  rw [show i - 1 + 1 = i by omega] at di
  have dj := ok.inc (j - 1) (by omega)
  rw [show j - 1 + 1 = j by omega] at dj
  have hsi := hs i i1 i2
  have hsj := hs j j1 j2
  rw [ei, ej]
  unfold seg
  have hN1 : segN X Y i x = g Y (i - 1) * (g X i - g X (i - 1)) + (g Y i - g Y (i - 1)) * (x - g X (i - 1)) := rfl
  have hN2 : segN X Y j y = g Y (j - 1) * (g X j - g X (j - 1)) + (g Y j - g Y (j - 1)) * (y - g X (j - 1)) := rfl
  have key : segN X Y i x * (g X j - g X (j - 1)) ≤ segN X Y j y * (g X i - g X (i - 1)) ∧
      (segN X Y j y * (g X i - g X (i - 1)) - segN X Y i x * (g X j - g X (j - 1))) * q ≤ p * (y - x) * ((g X i - g X (i - 1)) * (g X j - g X (j - 1))) := by
    by_cases e : i = j
    · subst e
      rw [hN1, hN2]
      obtain ⟨dx, hdx⟩ : ∃ v, g X i - g X (i - 1) = v := ⟨_, rfl⟩
      obtain ⟨dy, hdy⟩ : ∃ v, g Y i - g Y (i - 1) = v := ⟨_, rfl⟩
      have pdx : 0 < dx := by omega
      have pdy : 0 ≤ dy := by omega
      rw [hdx, hdy] at hsi ⊢
      have p1 := Int.mul_nonneg pdy (show 0 ≤ y - x by omega)
      have p2 := Int.mul_nonneg p1 (show 0 ≤ dx by omega)
      have e1 : (g Y (i - 1) * dx + dy * (y - g X (i - 1))) * dx - (g Y (i - 1) * dx + dy * (x - g X (i - 1))) * dx = dy * (y - x) * dx := by grind
      have p3 := Int.mul_le_mul_of_nonneg_right hsi (show 0 ≤ (y - x) * dx from Int.mul_nonneg (by omega) (by omega))
      refine ⟨by omega, ?_⟩
      rw [e1]
      have e2 : dy * (y - x) * dx * q = dy * q * ((y - x) * dx) := by grind
      have e3 : p * (y - x) * (dx * dx) = p * dx * ((y - x) * dx) := by grind
      omega
    · have hij : i < j := by
        refine Nat.lt_of_not_le fun hle => ?_
        by_cases e2 : j = i
        · exact e e2.symm
        · have := (mono_le ok (i := j) (j := i - 1) (by omega) (by omega)).1
          omega
      have hm := mono_le ok (i := i) (j := j - 1) (by omega) (by omega)
      have hsum := slope_sum hs (a := i) (b := j - 1) (by omega) (by omega)
      have b1 := (segN_bd ok i2 i1 i3 i4).2
      have b2 := (segN_bd ok j2 j1 j3 j4).1
      have f1 : g Y i * (g X i - g X (i - 1)) - segN X Y i x = (g Y i - g Y (i - 1)) * (g X i - x) := by rw [hN1]; grind
      have f2 : segN X Y j y - g Y (j - 1) * (g X j - g X (j - 1)) = (g Y j - g Y (j - 1)) * (y - g X (j - 1)) := by rw [hN2]; omega
      clear hN1 hN2
      generalize segN X Y i x = N1 at *
      generalize segN X Y j y = N2 at *
      obtain ⟨D1, hD1⟩ : ∃ v, g X i - g X (i - 1) = v := ⟨_, rfl⟩
      obtain ⟨D2, hD2⟩ : ∃ v, g X j - g X (j - 1) = v := ⟨_, rfl⟩
      obtain ⟨E1, hE1⟩ : ∃ v, g Y i - g Y (i - 1) = v := ⟨_, rfl⟩
      obtain ⟨E2, hE2⟩ : ∃ v, g Y j - g Y (j - 1) = v := ⟨_, rfl⟩
      have p1 : 0 < D1 := by omega
      have p2 : 0 < D2 := by omega
      rw [hD1, hE1] at hsi f1
      rw [hD2, hE2] at hsj f2
      rw [hD1] at b1 ⊢
      rw [hD2] at b2 ⊢
      have hu : 0 ≤ g X i - x := by omega
      have hv : 0 ≤ y - g X (j - 1) := by omega
      generalize g Y i = yi at *
      generalize g Y (j - 1) = yj at *
      obtain ⟨u, hu2⟩ : ∃ u, g X i - x = u := ⟨_, rfl⟩
      obtain ⟨v, hv2⟩ : ∃ v, y - g X (j - 1) = v := ⟨_, rfl⟩
      obtain ⟨t, ht⟩ : ∃ t, g X (j - 1) - g X i = t := ⟨_, rfl⟩
      have hd : y - x = u + t + v := by omega
      rw [hu2] at f1 hu
      rw [hv2] at f2 hv
      rw [ht] at hsum
      rw [hd]
      have k1 := Int.mul_le_mul_of_nonneg_right b1 (show 0 ≤ D2 by omega)
      have k2 := Int.mul_le_mul_of_nonneg_right b2 (show 0 ≤ D1 by omega)
      have k3 := Int.mul_le_mul_of_nonneg_right (show yi ≤ yj by omega) (show 0 ≤ D1 * D2 from Int.mul_nonneg (by omega) (by omega))
      have e1 : yi * D1 * D2 = yi * (D1 * D2) := by grind
      have e2 : yj * D2 * D1 = yj * (D1 * D2) := by grind
      refine ⟨by omega, ?_⟩
      have m1 := Int.mul_le_mul_of_nonneg_right hsi (show 0 ≤ u * D2 from Int.mul_nonneg hu (by omega))
      have m2 := Int.mul_le_mul_of_nonneg_right hsj (show 0 ≤ v * D1 from Int.mul_nonneg hv (by omega))
      have m3 := Int.mul_le_mul_of_nonneg_right hsum (show 0 ≤ D1 * D2 from Int.mul_nonneg (by omega) (by omega))
      have n1 : N1 = yi * D1 - E1 * u := by omega
      have n2 : N2 = yj * D2 + E2 * v := by omega
      have e3 : (N2 * D1 - N1 * D2) * q = (yj - yi) * q * (D1 * D2) + E2 * q * (v * D1) + E1 * q * (u * D2) := by rw [n1, n2]; grind
      have e4 : p * (u + t + v) * (D1 * D2) = p * t * (D1 * D2) + p * D2 * (v * D1) + p * D1 * (u * D2) := by grind
      omega
  have D1p : 0 < g X i - g X (i - 1) := by omega
  have D2p : 0 < g X j - g X (j - 1) := by omega
  have td := trunc_diff D1p D2p key.1
  have hDD : 0 < (g X i - g X (i - 1)) * (g X j - g X (j - 1)) := Int.mul_pos D1p D2p
  have k2 := key.2
  generalize (segN X Y j y).tdiv (g X j - g X (j - 1)) - (segN X Y i x).tdiv (g X i - g X (i - 1)) - 1 = U at *
  generalize segN X Y j y * (g X i - g X (i - 1)) - segN X Y i x * (g X j - g X (j - 1)) = W at *
  generalize (g X i - g X (i - 1)) * (g X j - g X (j - 1)) = DD at *
  refine Int.lt_of_mul_lt_mul_right (a := DD) ?_ (by omega)
  have c1 := Int.mul_lt_mul_of_pos_right td hq
  have e5 : U * q * DD = U * DD * q := by grind
  omega

end Go.Proofs.Ytpfkiohknpeifaa
