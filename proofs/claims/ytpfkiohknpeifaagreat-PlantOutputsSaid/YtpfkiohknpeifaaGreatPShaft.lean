/- The shaft: clips, ranges, signs, positions modulo 2^57, angles; and the reference's. -/
import Derived.Test.YtpfkiohknpeifaaGreatMcA
import Derived.Lib.MinMax
namespace Go.Proofs.YtpfkiohknpeifaaGreat
open Go.RowKit
theorem minmax_clip (n lo hi : Int) (h : lo ≤ hi) : min (max n lo) hi = clipI n lo hi := by unfold clipI; split <;> (try split) <;> omega
theorem maxmin_clip (n lo hi : Int) (h : lo ≤ hi) : max lo (min n hi) = clipI n lo hi := by unfold clipI; split <;> (try split) <;> omega
/-- A position modulo 2^57. -/
def wrapP (p : Int) : Int := (p + 72057594037927936) % 144115188075855872 - 72057594037927936
theorem wrapP_bd (p : Int) : -72057594037927936 ≤ wrapP p ∧ wrapP p < 72057594037927936 := by unfold wrapP; omega
theorem and_57 (n : Int) : bits .and .i64 n 144115188075855871 = n % 144115188075855872 := by
  show IntKind.i64.wrap ((bv n &&& bv 144115188075855871).toNat : Int) = _
  rw [BitVec.toNat_and, show (bv 144115188075855871).toNat = 2 ^ 57 - 1 by decide, Nat.and_two_pow_sub_one_eq_mod]
  unfold bv
  rw [BitVec.toNat_ofInt, IntKind.wrap_i64]
  omega
/-- The angle of a position. -/
def angP (p : Int) : Int := wrapP p / 65536 % 65536
/-- The sign of a number. -/
def sgn (n : Int) : Int := if 0 < n then 1 else if n < 0 then -1 else 0
theorem sgn_clip (n : Int) : clipI n (-1) 1 = sgn n := by unfold clipI sgn; split <;> (try split) <;> (try split) <;> (try split) <;> omega
theorem clipShM (n lo hi : Int) (h : lo ≤ hi) (w : World) : Calls Tryz.prog 96 #[.int .i64 n, .int .i64 lo, .int .i64 hi] w fun e w' => e = .returned (.int .i64 (clipI n lo hi)) ∧ w = w' := by
  have hv := Lib.hid (minmax_clip n lo hi h)
  go_enter Tryz.func96, Tryz.ntmps96
  go_wp2
  go_ret
  exact ⟨by rw [← hv.out]; rfl, rfl⟩
theorem clipShR (n lo hi : Int) (h : lo ≤ hi) (w : World) : Calls Tryz.prog 120 #[.int .i64 n, .int .i64 lo, .int .i64 hi] w fun e w' => e = .returned (.int .i64 (clipI n lo hi)) ∧ w = w' := by
  have hv := Lib.hid (maxmin_clip n lo hi h)
  go_enter Tryz.func120, Tryz.ntmps120
  go_wp2
  go_ret
  exact ⟨by rw [← hv.out]; rfl, rfl⟩
theorem clipLiM (n lo hi : Int) (h : lo ≤ hi) (w : World) : Calls Tryz.prog 99 #[.int .i64 n, .int .i64 lo, .int .i64 hi] w fun e w' => e = .returned (.int .i64 (clipI n lo hi)) ∧ w = w' := by
  have hv := Lib.hid (minmax_clip n lo hi h)
  go_enter Tryz.func99, Tryz.ntmps99
  go_wp2
  go_ret
  exact ⟨by rw [← hv.out]; rfl, rfl⟩
theorem clipLiR (n lo hi : Int) (h : lo ≤ hi) (w : World) : Calls Tryz.prog 117 #[.int .i64 n, .int .i64 lo, .int .i64 hi] w fun e w' => e = .returned (.int .i64 (clipI n lo hi)) ∧ w = w' := by
  have hv := Lib.hid (maxmin_clip n lo hi h)
  go_enter Tryz.func117, Tryz.ntmps117
  go_wp2
  go_ret
  exact ⟨by rw [← hv.out]; rfl, rfl⟩
theorem clipHeM (n lo hi : Int) (h : lo ≤ hi) (w : World) : Calls Tryz.prog 101 #[.int .i64 n, .int .i64 lo, .int .i64 hi] w fun e w' => e = .returned (.int .i64 (clipI n lo hi)) ∧ w = w' := by
  have hv := Lib.hid (minmax_clip n lo hi h)
  go_enter Tryz.func101, Tryz.ntmps101
  go_wp2
  go_ret
  exact ⟨by rw [← hv.out]; rfl, rfl⟩
theorem clipHeR (n lo hi : Int) (h : lo ≤ hi) (w : World) : Calls Tryz.prog 82 #[.int .i64 n, .int .i64 lo, .int .i64 hi] w fun e w' => e = .returned (.int .i64 (clipI n lo hi)) ∧ w = w' := by
  have hv := Lib.hid (maxmin_clip n lo hi h)
  go_enter Tryz.func82, Tryz.ntmps82
  go_wp2
  go_ret
  exact ⟨by rw [← hv.out]; rfl, rfl⟩
theorem wiShM (n lo hi : Int) (w : World) : Calls Tryz.prog 80 #[.int .i64 n, .int .i64 lo, .int .i64 hi] w fun e w' => e = .returned (.bool (wiB n lo hi)) ∧ w = w' := by
  go_enter Tryz.func80, Tryz.ntmps80
  go_wp2
  all_goals go_ret
  all_goals exact ⟨congrArg (fun x => Ending.returned (.bool x)) (by first | (unfold wiB; symm; rw [decide_eq_true_eq]; omega) | (unfold wiB; symm; rw [decide_eq_false_iff_not]; omega) | (unfold wiB; rw [Bool.eq_iff_iff]; simp; omega)), rfl⟩
theorem wiShR (n lo hi : Int) (w : World) : Calls Tryz.prog 73 #[.int .i64 n, .int .i64 lo, .int .i64 hi] w fun e w' => e = .returned (.bool (wiB n lo hi)) ∧ w = w' := by
  go_enter Tryz.func73, Tryz.ntmps73
  go_wp2
  all_goals go_ret
  all_goals exact ⟨congrArg (fun x => Ending.returned (.bool x)) (by first | (unfold wiB; symm; rw [decide_eq_true_eq]; omega) | (unfold wiB; symm; rw [decide_eq_false_iff_not]; omega) | (unfold wiB; rw [Bool.eq_iff_iff]; simp; omega)), rfl⟩
theorem wiLiM (n lo hi : Int) (w : World) : Calls Tryz.prog 79 #[.int .i64 n, .int .i64 lo, .int .i64 hi] w fun e w' => e = .returned (.bool (wiB n lo hi)) ∧ w = w' := by
  go_enter Tryz.func79, Tryz.ntmps79
  go_wp2
  all_goals go_ret
  all_goals exact ⟨congrArg (fun x => Ending.returned (.bool x)) (by first | (unfold wiB; symm; rw [decide_eq_true_eq]; omega) | (unfold wiB; symm; rw [decide_eq_false_iff_not]; omega) | (unfold wiB; rw [Bool.eq_iff_iff]; simp; omega)), rfl⟩
theorem wiLiR (n lo hi : Int) (w : World) : Calls Tryz.prog 72 #[.int .i64 n, .int .i64 lo, .int .i64 hi] w fun e w' => e = .returned (.bool (wiB n lo hi)) ∧ w = w' := by
  go_enter Tryz.func72, Tryz.ntmps72
  go_wp2
  all_goals go_ret
  all_goals exact ⟨congrArg (fun x => Ending.returned (.bool x)) (by first | (unfold wiB; symm; rw [decide_eq_true_eq]; omega) | (unfold wiB; symm; rw [decide_eq_false_iff_not]; omega) | (unfold wiB; rw [Bool.eq_iff_iff]; simp; omega)), rfl⟩
theorem signM (n : Int) (w : World) : Calls Tryz.prog 136 #[.int .i64 n] w fun e w' => e = .returned (.int .i64 (sgn n)) ∧ w = w' := by
  have h := fun W => clipShM n (-1) 1 (by omega) W
  simp only [sgn_clip] at h
  have H := hide h
  clear h
  go_enter Tryz.func136, Tryz.ntmps136
  go_wp2_with (first | (go_at_call 96; (with_reducible refine ((unhide H) _).mono ?_); rintro e w' ⟨rfl, rfl⟩))
  go_ret
  exact ⟨rfl, rfl⟩
theorem signR (n : Int) (w : World) : Calls Tryz.prog 140 #[.int .i64 n] w fun e w' => e = .returned (.int .i64 (sgn n)) ∧ w = w' := by
  have hv0 : sgn n = if 0 < n then 1 else if n < 0 then -1 else 0 := rfl
  have hv := Lib.hid hv0
  clear hv0
  go_enter Tryz.func140, Tryz.ntmps140
  by_cases h1 : 0 < n
  · go_wp2
    go_ret
    exact ⟨by rw [hv.out, if_pos h1]; rfl, rfl⟩
  · by_cases h2 : n < 0
    · go_wp2
      go_ret
      exact ⟨by rw [hv.out, if_neg (by omega), if_pos h2]; rfl, rfl⟩
    · go_wp2
      go_ret
      exact ⟨by rw [hv.out, if_neg (by omega), if_neg (by omega)]; rfl, rfl⟩
theorem wrapM (p : Int) (w : World) : Calls Tryz.prog 65 #[.int .i64 p] w fun e w' => e = .returned (.int .i64 (wrapP p)) ∧ w = w' := by
  have h1 := and_57 (wrap64 (p + 72057594037927936))
  have e1 : wrap64 (p + 72057594037927936) % 144115188075855872 = (p + 72057594037927936) % 144115188075855872 := by unfold wrap64; omega
  rw [e1] at h1
  have hv : (p + 72057594037927936) % 144115188075855872 - 72057594037927936 = wrapP p := rfl
  have hb := wrapP_bd p
  obtain ⟨Q, hQ⟩ : ∃ Q, (p + 72057594037927936) % 144115188075855872 = Q := ⟨_, rfl⟩
  rw [hQ] at h1 hv
  rw [← hv] at hb ⊢
  clear hQ e1 hv
  go_enter Tryz.func65, Tryz.ntmps65
  go_wp2
  go_ret
  exact ⟨rfl, rfl⟩
theorem wrapR (p : Int) (w : World) : Calls Tryz.prog 67 #[.int .i64 p] w fun e w' => e = .returned (.int .i64 (wrapP p)) ∧ w = w' := by
  have hv : (if p.tmod 144115188075855872 < 0 then (if 72057594037927936 ≤ p.tmod 144115188075855872 + 144115188075855872 then p.tmod 144115188075855872 else p.tmod 144115188075855872 + 144115188075855872) else (if 72057594037927936 ≤ p.tmod 144115188075855872 then p.tmod 144115188075855872 - 144115188075855872 else p.tmod 144115188075855872)) = wrapP p := by
    unfold wrapP
    rcases Int.lt_or_le p 0 with h | h
    · rw [tmod_neg h]; split <;> split <;> omega
    · rw [tmod_pos h]; split <;> split <;> omega
  have hb : -144115188075855872 < p.tmod 144115188075855872 ∧ p.tmod 144115188075855872 < 144115188075855872 := by
    rcases Int.lt_or_le p 0 with h | h
    · rw [tmod_neg h]; omega
    · rw [tmod_pos h]; omega
  obtain ⟨r, hr⟩ : ∃ r, p.tmod 144115188075855872 = r := ⟨_, rfl⟩
  rw [hr] at hv hb
  have HV := Lib.hid hv
  clear hv
  have e1 : wrap64 r = r := by unfold wrap64; omega
  go_enter Tryz.func67, Tryz.ntmps67
  by_cases h1 : r < 0
  · by_cases h2 : 72057594037927936 ≤ r + 144115188075855872
    · go_wp2
      go_ret
      exact ⟨by rw [← HV.out, if_pos h1, if_pos h2, show r = r + 144115188075855872 - 144115188075855872 by omega]; first | rfl | (simp; rfl), rfl⟩
    · go_wp2
      go_ret
      exact ⟨by rw [← HV.out, if_pos h1, if_neg (by omega)]; rfl, rfl⟩
  · by_cases h2 : 72057594037927936 ≤ r
    · go_wp2
      go_ret
      exact ⟨by rw [← HV.out, if_neg (by omega), if_pos h2]; rfl, rfl⟩
    · go_wp2
      go_ret
      exact ⟨by rw [← HV.out, if_neg (by omega), if_neg (by omega)]; rfl, rfl⟩
end Go.Proofs.YtpfkiohknpeifaaGreat
