/- The walks of the small functions: clips, ranges, the number of an error, an angle's rest. -/
import Derived.Test.YtmmplfokidnpnaaMBase
import Derived.Laws.BitsAllLaws
import Derived.Laws.Bits128
namespace Go.Proofs.Ytmmplfokidnpnaa
open Go.RowKit

theorem num_nil (w : World) : Calls Try.prog 16 #[.nilIface] w fun e w' => e = .returned (.int .i64 0) ∧ w = w' := by
  go_enter Try.func16, Try.ntmps16
  go_wp2
  go_ret
  exact ⟨rfl, rfl⟩
theorem num_assert (m : Int) (w : World) : (Instr.typeAssert (.iface 79 (.int .i64 m)) 35 79 true).run Try.prog w = .ok (.tuple #[.int .i64 m, .bool true]) w := by kernel_rfl
theorem num_iface (m : Int) (w : World) : Calls Try.prog 16 #[.iface 79 (.int .i64 m)] w fun e w' => e = .returned (.int .i64 m) ∧ w = w' := by
  have hta := num_assert m
  go_enter Try.func16, Try.ntmps16
  go_wp2
  go_ret
  exact ⟨rfl, rfl⟩
theorem num_any (m : Int) (w : World) : Calls Try.prog 16 #[errV m] w fun e w' => e = .returned (.int .i64 m) ∧ w = w' := by
  by_cases h : m = 0
  · subst h; exact num_nil w
  · rw [errV_ne h]; exact num_iface m w
theorem clipM (n lo hi : Int) (h : lo ≤ hi) (w : World) : Calls Try.prog 45 #[.int .i64 n, .int .i64 lo, .int .i64 hi] w fun e w' => e = .returned (.int .i64 (clipI n lo hi)) ∧ w = w' := by
  go_enter Try.func45, Try.ntmps45
  by_cases h1 : n < lo
  · go_wp2
    all_goals go_ret
    all_goals exact ⟨congrArg (fun x => Ending.returned (.int .i64 x)) (by unfold clipI; rw [if_pos (by omega)]; try omega), rfl⟩
  · by_cases h2 : hi < n
    · go_wp2
      all_goals go_ret
      all_goals exact ⟨congrArg (fun x => Ending.returned (.int .i64 x)) (by unfold clipI; rw [if_neg (by omega), if_pos (by omega)]; try omega), rfl⟩
    · go_wp2
      all_goals go_ret
      all_goals exact ⟨congrArg (fun x => Ending.returned (.int .i64 x)) (by unfold clipI; rw [if_neg (by omega), if_neg (by omega)]; try omega), rfl⟩
theorem clipR (n lo hi : Int) (h : lo ≤ hi) (w : World) : Calls Try.prog 48 #[.int .i64 n, .int .i64 lo, .int .i64 hi] w fun e w' => e = .returned (.int .i64 (clipI n lo hi)) ∧ w = w' := by
  go_enter Try.func48, Try.ntmps48
  by_cases h1 : n < lo
  · go_wp2
    all_goals go_ret
    all_goals exact ⟨congrArg (fun x => Ending.returned (.int .i64 x)) (by unfold clipI; rw [if_pos (by omega)]; try omega), rfl⟩
  · by_cases h2 : hi < n
    · go_wp2
      all_goals go_ret
      all_goals exact ⟨congrArg (fun x => Ending.returned (.int .i64 x)) (by unfold clipI; rw [if_neg (by omega), if_pos (by omega)]; try omega), rfl⟩
    · go_wp2
      all_goals go_ret
      all_goals exact ⟨congrArg (fun x => Ending.returned (.int .i64 x)) (by unfold clipI; rw [if_neg (by omega), if_neg (by omega)]; try omega), rfl⟩
theorem clipB (n lo hi : Int) (h : lo ≤ hi) (w : World) : Calls Try.prog 26 #[.int .i64 n, .int .i64 lo, .int .i64 hi] w fun e w' => e = .returned (.int .i64 (clipI n lo hi)) ∧ w = w' := by
  go_enter Try.func26, Try.ntmps26
  by_cases h1 : n < lo
  · go_wp2
    all_goals go_ret
    all_goals exact ⟨congrArg (fun x => Ending.returned (.int .i64 x)) (by unfold clipI; rw [if_pos (by omega)]; try omega), rfl⟩
  · by_cases h2 : hi < n
    · go_wp2
      all_goals go_ret
      all_goals exact ⟨congrArg (fun x => Ending.returned (.int .i64 x)) (by unfold clipI; rw [if_neg (by omega), if_pos (by omega)]; try omega), rfl⟩
    · go_wp2
      all_goals go_ret
      all_goals exact ⟨congrArg (fun x => Ending.returned (.int .i64 x)) (by unfold clipI; rw [if_neg (by omega), if_neg (by omega)]; try omega), rfl⟩
theorem wiM (n lo hi : Int) (w : World) : Calls Try.prog 41 #[.int .i64 n, .int .i64 lo, .int .i64 hi] w fun e w' => e = .returned (.bool (wiB n lo hi)) ∧ w = w' := by
  go_enter Try.func41, Try.ntmps41
  go_wp2
  all_goals go_ret
  all_goals exact ⟨congrArg (fun x => Ending.returned (.bool x)) (by first | (unfold wiB; symm; rw [decide_eq_true_eq]; omega) | (unfold wiB; symm; rw [decide_eq_false_iff_not]; omega) | (unfold wiB; rw [Bool.eq_iff_iff]; simp; omega)), rfl⟩
theorem wiR (n lo hi : Int) (w : World) : Calls Try.prog 38 #[.int .i64 n, .int .i64 lo, .int .i64 hi] w fun e w' => e = .returned (.bool (wiB n lo hi)) ∧ w = w' := by
  go_enter Try.func38, Try.ntmps38
  go_wp2
  all_goals go_ret
  all_goals exact ⟨congrArg (fun x => Ending.returned (.bool x)) (by first | (unfold wiB; symm; rw [decide_eq_true_eq]; omega) | (unfold wiB; symm; rw [decide_eq_false_iff_not]; omega) | (unfold wiB; rw [Bool.eq_iff_iff]; simp; omega)), rfl⟩
/-- A number as 64 bits. -/
def bv (c : Int) : BitVec 64 := BitVec.ofInt 64 c
theorem and_65535 (n : Int) : bits .and .i64 n 65535 = n % 65536 := by
  show IntKind.i64.wrap ((bv n &&& bv 65535).toNat : Int) = _
  rw [BitVec.toNat_and, show (bv 65535).toNat = 65535 by decide, nat_mask16]
  unfold bv
  rw [BitVec.toNat_ofInt, IntKind.wrap_i64]
  omega
theorem normM (n : Int) (w : World) : Calls Try.prog 80 #[.int .i64 n] w fun e w' => e = .returned (.int .i64 (n % 65536)) ∧ w = w' := by
  have h := and_65535 n
  go_enter Try.func80, Try.ntmps80
  go_wp2
  go_ret
  exact ⟨rfl, rfl⟩
theorem tmod_neg {n k : Int} (h : n < 0) : n.tmod k = -((-n) % k) := by
  have h1 : n = -(-n) := by omega
  rw [h1, Int.neg_tmod, Int.neg_neg, Int.tmod_eq_emod_of_nonneg (by omega)]
theorem tmod_pos {n k : Int} (h : 0 ≤ n) : n.tmod k = n % k := Int.tmod_eq_emod_of_nonneg h
theorem norm_eq (n : Int) : (n.tmod 65536 + 65536).tmod 65536 = n % 65536 := by
  rcases Int.lt_or_le n 0 with h | h
  · rw [tmod_neg h, tmod_pos (by omega)]
    omega
  · rw [tmod_pos h, tmod_pos (by omega)]
    omega
theorem tmod_bd (n : Int) : -65536 < n.tmod 65536 ∧ n.tmod 65536 < 65536 := by
  rcases Int.lt_or_le n 0 with h | h
  · rw [tmod_neg h]; omega
  · rw [tmod_pos h]; omega
theorem normR (n : Int) (w : World) : Calls Try.prog 84 #[.int .i64 n] w fun e w' => e = .returned (.int .i64 (n % 65536)) ∧ w = w' := by
  have h := norm_eq n
  have h0 := tmod_bd n
  have h1 : IntKind.i64.wrap (n.tmod 65536 + 65536) = n.tmod 65536 + 65536 := IntWalk.i64_in _ (by omega)
  go_enter Try.func84, Try.ntmps84
  go_wp2
  go_ret
  exact ⟨rfl, rfl⟩

end Go.Proofs.Ytmmplfokidnpnaa
