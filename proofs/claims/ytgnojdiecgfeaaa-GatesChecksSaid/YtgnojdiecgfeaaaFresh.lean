/- The walks of Fresh, Off and their references; equality of states. -/
import Derived.Test.YtgnojdiecgfeaaaOwnB
import Derived.Test.YtgnojdiecgfeaaaGate2
import Derived.ChangeKeysEq
import Derived.BigRegion
namespace Go.Proofs.Ytgnojdiecgfeaaa
open Go.RowKit

def fresh : Nat → Lg := fun _ => ⟨0, 4096⟩
theorem fresh_walk (w : World) : Calls Try.prog 38 #[] w fun e w' => e = .returned (.agg (cellsL fresh)) ∧ Below w.heap.size w w' := by
  go_enter Try.func38, Try.ntmps38
  go_wp2
  refine bodyPost_ret (ret_cell rfl rfl (load_legs ((Blk.new' (w := w) (t := 48) (cs := #[.int .i64 0, .int .i64 4096, .int .i64 0, .int .i64 4096, .int .i64 0, .int .i64 4096]) rfl).alloc _))) rfl ⟨rfl, ?_⟩
  exact ((Below.refl w.heap.size w).alloc (Nat.le_refl _) _).alloc (by simp) _
theorem rfresh_walk (w : World) : Calls Try.prog 47 #[] w fun e w' => e = .returned (.agg (cellsL fresh)) ∧ Below w.heap.size w w' := by
  go_enter Try.func47, Try.ntmps47
  go_wp2
  refine bodyPost_ret (ret_cell rfl rfl (load_legs (Blk.new' (w := w) (t := 48) (cs := #[.int .i64 0, .int .i64 4096, .int .i64 0, .int .i64 4096, .int .i64 0, .int .i64 4096]) rfl))) rfl ⟨rfl, ?_⟩
  exact (Below.refl w.heap.size w).alloc (Nat.le_refl _) _

end Go.Proofs.Ytgnojdiecgfeaaa
