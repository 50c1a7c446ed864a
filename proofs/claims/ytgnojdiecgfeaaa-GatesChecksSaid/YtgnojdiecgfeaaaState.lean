/- The walk of layer 24's statements' 'state'. -/
import Derived.Test.YtgnojdiecgfeaaaOwnB
import Derived.Test.YtgnojdiecgfeaaaGate2
import Derived.Test.YtgnojdiecgfeaaaSmall
import Derived.StillTailTactics
namespace Go.Proofs.Ytgnojdiecgfeaaa
open Go.RowKit

/-- A state in its ranges. -/
def stL (x : Nat → Lg) : Nat → Lg := fun l => ⟨clipI (x l).s 0 2, clipI (x l).j 0 4096⟩
theorem lnk_quiet0 (n lo hi : Int) (h : lo ≤ hi) (w : World) : Calls Try.prog 24 #[.int .i64 n, .int .i64 lo, .int .i64 hi] w fun e w' => e = .returned (.int .i64 (clipI n lo hi)) ∧ w' = w :=
  (clip_b n lo hi h w).mono fun _ _ ⟨he, hw⟩ => ⟨he, hw.symm⟩

set_option maxRecDepth 100000 in
set_option maxHeartbeats 1600000 in
theorem state_walk (x : Nat → Lg) (w : World) : Calls Try.prog 35 #[.agg (cellsL x)] w fun e w' => e = .returned (.agg (cellsL (stL x))) ∧ Below w.heap.size w w' := by
  have h0 := (Blk.new w 48 (cellsL x)).alloc (.cells #[.int .i64 0, .int .i64 0, .int .i64 0, .int .i64 0, .int .i64 0, .int .i64 0] 48)
  have h1 := Blk.new' (w := w.alloc (.cells (cellsL x) 48)) (t := 48) (cs := #[.int .i64 0, .int .i64 0, .int .i64 0, .int .i64 0, .int .i64 0, .int .i64 0]) (g := w.heap.size + 1) (by simp)
  have hb := ((Below.refl w.heap.size w).alloc (Nat.le_refl _) (.cells (cellsL x) 48)).alloc (by simp) (.cells #[.int .i64 0, .int .i64 0, .int .i64 0, .int .i64 0, .int .i64 0, .int .i64 0] 48)
  go_enter Try.func35, Try.ntmps35
  go_wp2
  go_loopw [4] (fun i wr => ∃ m : Nat, m ≤ 3 ∧ i = .int .i64 m ∧ Blk wr w.heap.size 48 (cellsL (mixL m (stL x) x)) ∧ Blk wr (w.heap.size + 1) 48 #[.int .i64 0, .int .i64 0, .int .i64 0, .int .i64 0, .int .i64 0, .int .i64 0] ∧ Below w.heap.size w wr) (fun i _ => 3 - (intOf i).toNat)
  case atStart => exact ⟨0, by omega, rfl, by rw [mixL_zero]; exact h0, h1, hb⟩
  case round =>
  clear h0 h1 hb
  obtain ⟨m, hm, rfl, h0, h1, hb⟩ := hrel
  by_cases hm3 : (m : Int) < 3
  · have hmn : m < 3 := by omega
    have hyS : wr.cell? ⟨w.heap.size, m * 2, none⟩ = some (.int .i64 (x m).s) := by rw [h0.cell, cellsL_s _ hmn, mixL_at]
    have hyJ : wr.cell? ⟨w.heap.size, m * 2 + 1, none⟩ = some (.int .i64 (x m).j) := by rw [h0.cell, cellsL_j _ hmn, mixL_at]
    have hfS := h0.frozen (m * 2)
    have hfJ := h0.frozen (m * 2 + 1)
    go_wp2
    refine wp_region_still_tail 13 (by kernel_rfl) (by kernel_rfl) ?_
    simp only [List.take_succ_cons, List.take_zero, List.drop_succ_cons, List.drop_zero]
    repeat still_step
    still_call (lnk_quiet0 (x m).s 0 2 (by omega) _)
    repeat still_step
    still_call (lnk_quiet0 (x m).j 0 4096 (by omega) _)
    repeat still_step
    refine wpStill_nil ?_
    change wpList _ _ _ _ _ wr.drew
    go_wp2
    go_roundw
    case rel =>
      refine ⟨m + 1, by omega, by go_num, ?_, ((h1.far (by simp <;> omega) _).far (by simp <;> omega) _).drew, ((hb.setCell (by simp <;> omega) _).setCell (by simp <;> omega) _).drew⟩
      have h4 := (h0.set_ (m * 2) (.int .i64 (clipI (x m).s 0 2))).set_ (m * 2 + 1) (.int .i64 (clipI (x m).j 0 4096))
      have e4 := cellsL_set (stL x) x hmn
      simp only [stL] at e4
      rw [e4] at h4
      exact h4.drew
    case measure => simp [intOf]; omega
  · obtain rfl : m = 3 := by omega
    rw [cellsL_mix3] at h0
    obtain ⟨y0, y1, y2, y3, y4, y5⟩ := h0.c6
    obtain ⟨z0, z1, z2, z3, z4, z5⟩ := h1.c6
    have fz0 := h1.frozen 0
    have fz1 := h1.frozen 1
    have fz2 := h1.frozen 2
    have fz3 := h1.frozen 3
    have fz4 := h1.frozen 4
    have fz5 := h1.frozen 5
    go_wp2
    refine bodyPost_ret (ret_cell rfl rfl (load_legs ((((((h1.set_ 0 _).set_ 1 _).set_ 2 _).set_ 3 _).set_ 4 _).set_ 5 _))) rfl ⟨rfl, ?_⟩
    exact (((((hb.setCell (by simp <;> omega) _).setCell (by simp <;> omega) _).setCell (by simp <;> omega) _).setCell (by simp <;> omega) _).setCell (by simp <;> omega) _).setCell (by simp <;> omega) _

end Go.Proofs.Ytgnojdiecgfeaaa
