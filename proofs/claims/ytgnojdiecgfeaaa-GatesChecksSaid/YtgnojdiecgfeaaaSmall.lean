/- The walks of the small functions: clips, the number of an error. -/
import Derived.Test.YtgnojdiecgfeaaaBase
namespace Go.Proofs.Ytgnojdiecgfeaaa
open Go.RowKit

/-- n, moved into lo to hi. -/
def clipI (n lo hi : Int) : Int := if n < lo then lo else if hi < n then hi else n

theorem num_nil (w : World) : Calls Try.prog 22 #[.nilIface] w fun e w' => e = .returned (.int .i64 0) ∧ w = w' := by
  go_enter Try.func22, Try.ntmps22
  go_wp2
  go_ret
  exact ⟨rfl, rfl⟩
theorem num_assert (m : Int) (w : World) : (Instr.typeAssert (.iface 95 (.int .i64 m)) 29 95 true).run Try.prog w = .ok (.tuple #[.int .i64 m, .bool true]) w := by kernel_rfl
theorem num_iface (m : Int) (w : World) : Calls Try.prog 22 #[.iface 95 (.int .i64 m)] w fun e w' => e = .returned (.int .i64 m) ∧ w = w' := by
  have hta := num_assert m
  go_enter Try.func22, Try.ntmps22
  go_wp2
  go_ret
  exact ⟨rfl, rfl⟩
theorem num_any (m : Int) (w : World) : Calls Try.prog 22 #[errV m] w fun e w' => e = .returned (.int .i64 m) ∧ w = w' := by
  by_cases h : m = 0
  · subst h; exact num_nil w
  · rw [errV_ne h]; exact num_iface m w

theorem clip_a (n lo hi : Int) (h : lo ≤ hi) (w : World) : Calls Try.prog 56 #[.int .i64 n, .int .i64 lo, .int .i64 hi] w fun e w' => e = .returned (.int .i64 (clipI n lo hi)) ∧ w = w' := by
  by_cases h1 : n < lo
  · go_enter Try.func56, Try.ntmps56
    go_wp2
    go_ret
    exact ⟨by unfold clipI; rw [if_pos h1]; rfl, rfl⟩
  · by_cases h2 : hi < n
    · go_enter Try.func56, Try.ntmps56
      go_wp2
      go_ret
      exact ⟨by unfold clipI; rw [if_neg (by omega), if_pos (by omega)]; rfl, rfl⟩
    · go_enter Try.func56, Try.ntmps56
      go_wp2
      go_ret
      exact ⟨by unfold clipI; rw [if_neg (by omega), if_neg (by omega)]; rfl, rfl⟩

theorem clip_r (n lo hi : Int) (h : lo ≤ hi) (w : World) : Calls Try.prog 57 #[.int .i64 n, .int .i64 lo, .int .i64 hi] w fun e w' => e = .returned (.int .i64 (clipI n lo hi)) ∧ w = w' := by
  go_enter Try.func57, Try.ntmps57
  by_cases h1 : n < lo
  · go_wp2
    all_goals go_ret
    all_goals exact ⟨congrArg (fun x => Ending.returned (.int .i64 x)) (by unfold clipI; rw [if_pos (by omega)]), rfl⟩
  · by_cases h2 : hi < n
    · go_wp2
      all_goals go_ret
      all_goals exact ⟨congrArg (fun x => Ending.returned (.int .i64 x)) (by unfold clipI; rw [if_neg (by omega), if_pos (by omega)]; try omega), rfl⟩
    · go_wp2
      all_goals go_ret
      all_goals exact ⟨congrArg (fun x => Ending.returned (.int .i64 x)) (by unfold clipI; rw [if_neg (by omega), if_neg (by omega)]; try omega), rfl⟩
theorem clip_b (n lo hi : Int) (h : lo ≤ hi) (w : World) : Calls Try.prog 24 #[.int .i64 n, .int .i64 lo, .int .i64 hi] w fun e w' => e = .returned (.int .i64 (clipI n lo hi)) ∧ w = w' := by
  go_enter Try.func24, Try.ntmps24
  by_cases h1 : n < lo
  · go_wp2
    all_goals go_ret
    all_goals exact ⟨congrArg (fun x => Ending.returned (.int .i64 x)) (by unfold clipI; rw [if_pos (by omega)]), rfl⟩
  · by_cases h2 : hi < n
    · go_wp2
      all_goals go_ret
      all_goals exact ⟨congrArg (fun x => Ending.returned (.int .i64 x)) (by unfold clipI; rw [if_neg (by omega), if_pos (by omega)]; try omega), rfl⟩
    · go_wp2
      all_goals go_ret
      all_goals exact ⟨congrArg (fun x => Ending.returned (.int .i64 x)) (by unfold clipI; rw [if_neg (by omega), if_neg (by omega)]; try omega), rfl⟩

end Go.Proofs.Ytgnojdiecgfeaaa
