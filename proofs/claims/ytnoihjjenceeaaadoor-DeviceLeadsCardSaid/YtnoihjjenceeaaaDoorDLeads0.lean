/- Plain facts: the words lead where they should, and no shorter list does. -/
import Derived.Test.YtnoihjjenceeaaaDoorDPlay
namespace Go.Proofs.YtnoihjjenceeaaaDoor
open Go.RowKit

theorem ways_lead : ∀ b : Nat, b < 8 → ∀ a : Nat, a < 8 → 0 ≤ gI (fin b) a → (ways a b).foldl stp a = b ∧ (ways a b).length = (gI (fin b) a).toNat := by decide +kernel
theorem fin_step : ∀ b : Nat, b < 8 → ∀ s : Nat, s < 8 → ∀ j : Nat, j < 6 → 0 ≤ gI (fin b) (stp s (cw.getD j 0)) → 0 ≤ gI (fin b) s ∧ gI (fin b) s ≤ gI (fin b) (stp s (cw.getD j 0)) + 1 := by decide +kernel
theorem run_one (s c : Int) : run s [⟨c, true, false, true, true⟩] = stp s c := rfl
theorem play_one (s c : Int) (hs : 0 ≤ s ∧ s ≤ 7) (W : World) : Calls Tryd.prog 18 #[.int .i64 s, .slice (some ⟨W.heap.size, 0, none⟩) 1 1] (W.alloc (.cells #[.int .i64 c, .bool true, .bool false, .bool true, .bool true] 23)) fun e w' =>
    e = .returned (.tuple #[.int .i64 (stp s c), .bool true]) ∧ Below (W.alloc (.cells #[.int .i64 c, .bool true, .bool false, .bool true, .bool true] 23)).heap.size (W.alloc (.cells #[.int .i64 c, .bool true, .bool false, .bool true, .bool true] 23)) w' := by
  have h := play_walk s (some ⟨W.heap.size, 0, none⟩) 1 1 [⟨c, true, false, true, true⟩] (W.alloc (.cells #[.int .i64 c, .bool true, .bool false, .bool true, .bool true] 23)) (Sl.of_block (Blk.new W 23 #[.int .i64 c, .bool true, .bool false, .bool true, .bool true]) rfl (by simp [Dn.row]) (by simp)) rfl (by decide) hs
  rw [run_one] at h
  exact h

end Go.Proofs.YtnoihjjenceeaaaDoor
