/- Plain: the voltage vector of a period is no longer than the link's voltage, and what follows for the rise of the currents. -/
import Derived.Test.YtpfkiohknpeifaaPLaws
import Derived.Test.YtpfkiohknpeifaaMRisesP
namespace Go.Proofs.Ytpfkiohknpeifaa
open Go.RowKit
theorem cnt_upto (p : Int → Bool) (a : Int) : ∀ m : Nat, 0 ≤ I.cnt p a m ∧ I.cnt p a m ≤ m := by
  intro m
  induction m with
  | zero => simp [I.cnt]
  | succ m ih => simp only [I.cnt]; split <;> omega
theorem volt_in {per : Int} {on : List Bool} {es : List I.Ed} (h : I.err per on es = 0) (leg : Nat) (cur k : Int) : 0 ≤ I.voltP per on es leg cur k ∧ I.voltP per on es leg cur k ≤ clipI k 0 1048576 := by
  have hk : 0 ≤ I.lnk k := (clipI_in k 0 1048576 (by omega)).1
  have hp : 0 < per := by
    obtain ⟨h1, _⟩ := I.chk_zero (I.err_ok h).1
    omega
  have hc := cnt_upto (fun t => I.highB leg (decide (cur < 0)) (I.onAt on es t)) 0 per.toNat
  have e : I.hgh per on es leg cur = I.cnt (fun t => I.highB leg (decide (cur < 0)) (I.onAt on es t)) 0 per.toNat := I.hgh_cnt h
  change 0 ≤ I.voltP per on es leg cur k ∧ I.voltP per on es leg cur k ≤ I.lnk k
  unfold I.voltP I.voltF
  rw [if_pos h, e]
  generalize I.cnt (fun t => I.highB leg (decide (cur < 0)) (I.onAt on es t)) 0 per.toNat = q at *
  generalize I.lnk k = l at *
  constructor
  · exact Int.ediv_nonneg (Int.mul_nonneg hc.1 hk) (by omega)
  · refine Int.ediv_le_of_le_mul hp ?_
    rw [Int.mul_comm l per]
    exact Int.mul_le_mul_of_nonneg_right (by omega) hk
theorem vec_len {a b c V : Int} (ha : 0 ≤ a ∧ a ≤ V) (hb : 0 ≤ b ∧ b ≤ V) (hc : 0 ≤ c ∧ c ≤ V) : I.fwdA a b c * I.fwdA a b c + I.fwdB b c * I.fwdB b c ≤ V * V := by
  have h1 := tdiv_sq (2 * a - b - c) (d := 3) (by omega)
  have h2 := tdiv_sq ((b - c) * 37837) (d := 65536) (by omega)
  change I.fwdA a b c * 3 * (I.fwdA a b c * 3) ≤ _ at h1
  change I.fwdB b c * 65536 * (I.fwdB b c * 65536) ≤ _ at h2
  generalize I.fwdA a b c = x at *
  generalize I.fwdB b c = y at *
  have k : ∀ z M : Int, -M ≤ z ∧ z ≤ M → z * z ≤ M * M := by
    intro z M hz
    have e1 := Int.mul_nonneg (show 0 ≤ M - z by omega) (show 0 ≤ M + z by omega)
    have e2 : (M - z) * (M + z) = M * M - z * z := by grind
    omega
  have k1 := k (2 * a - b - c) (2 * V) (by omega)
  have k2 := k ((b - c) * 37837) (37837 * V) (by omega)
  have e1 : x * 3 * (x * 3) = 9 * (x * x) := by grind
  have e2 : y * 65536 * (y * 65536) = 4294967296 * (y * y) := by grind
  have e3 : 2 * V * (2 * V) = 4 * (V * V) := by grind
  have e4 : 37837 * V * (37837 * V) = 1431638569 * (V * V) := by grind
  have e5 := sq_nonneg' V
  omega
theorem turned_in {per : Int} {on : List Bool} {es : List I.Ed} (h : I.err per on es = 0) (a b c v t : Int) :
    (-clipI v 0 1048576 ≤ turnU (vecA per on es a b c v) (vecB per on es b c v) t ∧ turnU (vecA per on es a b c v) (vecB per on es b c v) t ≤ clipI v 0 1048576) ∧
    (-clipI v 0 1048576 ≤ turnV (vecA per on es a b c v) (vecB per on es b c v) t ∧ turnV (vecA per on es a b c v) (vecB per on es b c v) t ≤ clipI v 0 1048576) := by
  have h1 := turn_len (vecA per on es a b c v) (vecB per on es b c v) t
  have h2 := vec_len (volt_in h 0 a v) (volt_in h 1 b v) (volt_in h 2 c v)
  change vecA per on es a b c v * vecA per on es a b c v + vecB per on es b c v * vecB per on es b c v ≤ _ at h2
  have hV := (clipI_in v 0 1048576 (by omega)).1
  generalize turnU (vecA per on es a b c v) (vecB per on es b c v) t = u at *
  generalize turnV (vecA per on es a b c v) (vecB per on es b c v) t = q at *
  have s1 := sq_nonneg' u
  have s2 := sq_nonneg' q
  exact ⟨sq_le hV (by omega), sq_le hV (by omega)⟩
/-- The greatest absolute value of two numbers. -/
def szI (x y : Int) : Int := max (max (max x (-x)) y) (-y)
/-- No current changes by more than the bound, or they shrink. -/
theorem prises {P : Pc} {s : Ps} {z : Pi} (hp : plCode P = 0) (hi : InOk s z) (ht : -16384 ≤ s.tn ∧ s.tn ≤ 16384) :
    szI (curD P.m (pxS P s z).fd - curD P.m s.fd) (curQ P.m (pxS P s z).fq - curQ P.m s.fq) ≤ riI P.m (clipI s.v 0 1048576) (max s.tn (-s.tn)) (szI (curD P.m s.fd) (curQ P.m s.fq)) ∨
    szI (curD P.m (pxS P s z).fd) (curQ P.m (pxS P s z).fq) ≤ szI (curD P.m s.fd) (curQ P.m s.fq) := by
  have ok := cf_ok (pl_ok hp).m
  change szI (curD P.m (pxD P s z) - curD P.m s.fd) (curQ P.m (pxQ P s z) - curQ P.m s.fq) ≤ _ ∨ szI (curD P.m (pxD P s z)) (curQ P.m (pxQ P s z)) ≤ _
  unfold pxD pxQ elD elQ
  by_cases ho : offB (zOn z) (zEs z) = true
  · right
    rw [if_pos ho, if_pos ho]
    have fD := fadeD ok s.fd s.fq
    have fQ := fadeQ ok s.fd s.fq
    unfold szI
    omega
  · left
    rw [if_neg ho, if_neg ho]
    obtain ⟨b1, b2⟩ := turned_in hi.e (cuA P s) (cuB P s) (cuC P s) s.v (-(angP s.po))
    have bI := curD_bd ok s.fd
    have bJ := curQ_bd ok s.fq
    have hlaw := rises ok (fd := s.fd) (fq := s.fq) (tn := s.tn) (bt := max s.tn (-s.tn)) (bc := szI (curD P.m s.fd) (curQ P.m s.fq)) b1 b2 (clipI_in s.v 0 1048576 (by omega)) (by omega) (by omega) (by unfold szI; omega) (by unfold szI; omega)
    obtain ⟨R, hR⟩ : ∃ x, riI P.m (clipI s.v 0 1048576) (max s.tn (-s.tn)) (szI (curD P.m s.fd) (curQ P.m s.fq)) = x := ⟨_, rfl⟩
    rw [hR] at hlaw
    rw [hR]
    unfold szI
    omega
end Go.Proofs.Ytpfkiohknpeifaa
