/- The shaft: clips, ranges, signs, positions modulo 2^57, angles; and the reference's. -/
import Derived.Test.YtpfkiohknpeifaaMcA
import Derived.Lib.MinMax
namespace Go.Proofs.Ytpfkiohknpeifaa
open Go.RowKit
theorem minmax_clip (n lo hi : Int) (h : lo ≤ hi) : min (max n lo) hi = clipI n lo hi := by unfold clipI; split <;> (try split) <;> omega
theorem maxmin_clip (n lo hi : Int) (h : lo ≤ hi) : max lo (min n hi) = clipI n lo hi := by unfold clipI; split <;> (try split) <;> omega
/-- A position modulo 2^57. -/
def wrapP (p : Int) : Int := (p + 72057594037927936) % 144115188075855872 - 72057594037927936
theorem wrapP_bd (p : Int) : -72057594037927936 ≤ wrapP p ∧ wrapP p < 72057594037927936 := by unfold wrapP; omega
theorem and_57 (n : Int) : bits .and .i64 n 144115188075855871 = n % 144115188075855872 := by
  show IntKind.i64.wrap ((bv n &&& bv 144115188075855871).toNat : Int) = _
  rw [BitVec.toNat_and, show (bv 144115188075855871).toNat = 2 ^ 57 - 1 by decide, Nat.and_two_pow_sub_one_eq_mod]
  unfold bv
  rw [BitVec.toNat_ofInt, IntKind.wrap_i64]
  omega
/-- The angle of a position. -/
def angP (p : Int) : Int := wrapP p / 65536 % 65536
/-- The sign of a number. -/
def sgn (n : Int) : Int := if 0 < n then 1 else if n < 0 then -1 else 0
theorem sgn_clip (n : Int) : clipI n (-1) 1 = sgn n := by unfold clipI sgn; split <;> (try split) <;> (try split) <;> (try split) <;> omega
theorem clipShM (n lo hi : Int) (h : lo ≤ hi) (w : World) : Calls Try.prog 66 #[.int .i64 n, .int .i64 lo, .int .i64 hi] w fun e w' => e = .returned (.int .i64 (clipI n lo hi)) ∧ w = w' := by
  have hv := Lib.hid (minmax_clip n lo hi h)
  go_enter Try.func66, Try.ntmps66
  go_wp2
  go_ret
  exact ⟨by rw [← hv.out]; rfl, rfl⟩
theorem clipLiM (n lo hi : Int) (h : lo ≤ hi) (w : World) : Calls Try.prog 69 #[.int .i64 n, .int .i64 lo, .int .i64 hi] w fun e w' => e = .returned (.int .i64 (clipI n lo hi)) ∧ w = w' := by
  have hv := Lib.hid (minmax_clip n lo hi h)
  go_enter Try.func69, Try.ntmps69
  go_wp2
  go_ret
  exact ⟨by rw [← hv.out]; rfl, rfl⟩
theorem clipHeM (n lo hi : Int) (h : lo ≤ hi) (w : World) : Calls Try.prog 71 #[.int .i64 n, .int .i64 lo, .int .i64 hi] w fun e w' => e = .returned (.int .i64 (clipI n lo hi)) ∧ w = w' := by
  have hv := Lib.hid (minmax_clip n lo hi h)
  go_enter Try.func71, Try.ntmps71
  go_wp2
  go_ret
  exact ⟨by rw [← hv.out]; rfl, rfl⟩
theorem wiShM (n lo hi : Int) (w : World) : Calls Try.prog 88 #[.int .i64 n, .int .i64 lo, .int .i64 hi] w fun e w' => e = .returned (.bool (wiB n lo hi)) ∧ w = w' := by
  go_enter Try.func88, Try.ntmps88
  go_wp2
  all_goals go_ret
  all_goals exact ⟨congrArg (fun x => Ending.returned (.bool x)) (by first | (unfold wiB; symm; rw [decide_eq_true_eq]; omega) | (unfold wiB; symm; rw [decide_eq_false_iff_not]; omega) | (unfold wiB; rw [Bool.eq_iff_iff]; simp; omega)), rfl⟩
theorem wiShR (n lo hi : Int) (w : World) : Calls Try.prog 80 #[.int .i64 n, .int .i64 lo, .int .i64 hi] w fun e w' => e = .returned (.bool (wiB n lo hi)) ∧ w = w' := by
  go_enter Try.func80, Try.ntmps80
  go_wp2
  all_goals go_ret
  all_goals exact ⟨congrArg (fun x => Ending.returned (.bool x)) (by first | (unfold wiB; symm; rw [decide_eq_true_eq]; omega) | (unfold wiB; symm; rw [decide_eq_false_iff_not]; omega) | (unfold wiB; rw [Bool.eq_iff_iff]; simp; omega)), rfl⟩
theorem wiLiM (n lo hi : Int) (w : World) : Calls Try.prog 87 #[.int .i64 n, .int .i64 lo, .int .i64 hi] w fun e w' => e = .returned (.bool (wiB n lo hi)) ∧ w = w' := by
  go_enter Try.func87, Try.ntmps87
  go_wp2
  all_goals go_ret
  all_goals exact ⟨congrArg (fun x => Ending.returned (.bool x)) (by first | (unfold wiB; symm; rw [decide_eq_true_eq]; omega) | (unfold wiB; symm; rw [decide_eq_false_iff_not]; omega) | (unfold wiB; rw [Bool.eq_iff_iff]; simp; omega)), rfl⟩
theorem wiLiR (n lo hi : Int) (w : World) : Calls Try.prog 79 #[.int .i64 n, .int .i64 lo, .int .i64 hi] w fun e w' => e = .returned (.bool (wiB n lo hi)) ∧ w = w' := by
  go_enter Try.func79, Try.ntmps79
  go_wp2
  all_goals go_ret
  all_goals exact ⟨congrArg (fun x => Ending.returned (.bool x)) (by first | (unfold wiB; symm; rw [decide_eq_true_eq]; omega) | (unfold wiB; symm; rw [decide_eq_false_iff_not]; omega) | (unfold wiB; rw [Bool.eq_iff_iff]; simp; omega)), rfl⟩
theorem signM (n : Int) (w : World) : Calls Try.prog 100 #[.int .i64 n] w fun e w' => e = .returned (.int .i64 (sgn n)) ∧ w = w' := by
  have h := fun W => clipShM n (-1) 1 (by omega) W
  simp only [sgn_clip] at h
  have H := hide h
  clear h
  go_enter Try.func100, Try.ntmps100
  go_wp2_with (first | (go_at_call 66; (with_reducible refine ((unhide H) _).mono ?_); rintro e w' ⟨rfl, rfl⟩))
  go_ret
  exact ⟨rfl, rfl⟩
theorem wrapM (p : Int) (w : World) : Calls Try.prog 45 #[.int .i64 p] w fun e w' => e = .returned (.int .i64 (wrapP p)) ∧ w = w' := by
  have h1 := and_57 (wrap64 (p + 72057594037927936))
  have e1 : wrap64 (p + 72057594037927936) % 144115188075855872 = (p + 72057594037927936) % 144115188075855872 := by unfold wrap64; omega
  rw [e1] at h1
  have hv : (p + 72057594037927936) % 144115188075855872 - 72057594037927936 = wrapP p := rfl
  have hb := wrapP_bd p
  obtain ⟨Q, hQ⟩ : ∃ Q, (p + 72057594037927936) % 144115188075855872 = Q := ⟨_, rfl⟩
  rw [hQ] at h1 hv
  rw [← hv] at hb ⊢
  clear hQ e1 hv
  go_enter Try.func45, Try.ntmps45
  go_wp2
  go_ret
  exact ⟨rfl, rfl⟩
end Go.Proofs.Ytpfkiohknpeifaa
