/- The walks of the chapter's example and of 'awake'. -/
import Derived.Test.YtgnojdiecgfeaaaVolts
namespace Go.Proofs.Ytgnojdiecgfeaaa
open Go.RowKit

def exEs : List Ed := [⟨30, 0, false⟩, ⟨40, 1, true⟩]
theorem ex_err : err 100 [true, false, false, false, false, false] exEs = 0 := by decide +kernel
theorem ex_v0 : voltP 100 [true, false, false, false, false, false] exEs 0 (-5) 24000 = 9600 := by decide +kernel
theorem ex_v1 : voltP 100 [true, false, false, false, false, false] exEs 1 3 24000 = 0 := by decide +kernel
theorem ex_v2 : voltP 100 [true, false, false, false, false, false] exEs 2 2 24000 = 0 := by decide +kernel
theorem ex_draw : drawP 100 [true, false, false, false, false, false] exEs (-5) 3 2 = -2 := by decide +kernel

set_option maxHeartbeats 400000 in
theorem example_walk (w : World) : Calls Try.prog 55 #[] w fun e w' =>
    ∃ A, e = .returned (.agg #[.int .i64 100, .bool true, .bool false, .bool false, .bool false, .bool false, .bool false, .slice A 2 2]) ∧ Sl w' w'.heap.size 3 A (exEs.map Ed.row) ∧ Below w.heap.size w w' := by
  go_enter Try.func55, Try.ntmps55
  go_wp2
  refine bodyPost_ret (ret_cell rfl rfl (load_gates ((Blk.new w 25 _).alloc _))) rfl ⟨_, rfl, ?_, ?_⟩
  · exact Sl.of_block (Blk.new' (by simp)) rfl (by simp [exEs, Ed.row]) (by simp)
  · exact ((Below.refl _ _).alloc (Nat.le_refl _) _).alloc (by simp) _

theorem awake_eq (w : World) : (binOp .eql 26 (.agg #[.int .i64 9600, .int .i64 0, .int .i64 0]) (.agg #[.int .i64 9600, .int .i64 0, .int .i64 0])).run Try.prog w = .ok (.bool true) w := by kernel_rfl

set_option maxHeartbeats 800000 in
theorem awake_walk (w : World) : Calls Try.prog 19 #[] w fun e w' => e = .returned (.bool true) ∧ Below w.heap.size w w' := by
  have haw := awake_eq
  go_enter Try.func19, Try.ntmps19
  go_wp2_with fail
  refine (example_walk _).mono ?_
  rintro e w1 ⟨A, rfl, hS, hb1⟩
  go_wp2_with fail
  have hv := volts_walk 100 true false false false false false A 2 2 exEs (-5) 3 2 24000 w1 hS rfl (by omega)
  rw [ex_err, ex_v0, ex_v1, ex_v2, errV_zero] at hv
  refine hv.mono ?_
  clear hv
  rintro e w2 ⟨rfl, hb2⟩
  have hb2' := hb1.trans (hb2.mono hb1.size)
  have hb3 := hb2'.alloc hb2'.size (.cells #[.int .i64 9600, .int .i64 0, .int .i64 0] 26)
  clear hb1 hb2 hS
  go_wp2_with fail
  refine (example_walk _).mono ?_
  rintro e w3 ⟨A3, rfl, hS, hb4⟩
  have hb5 := hb3.trans (hb4.mono hb3.size)
  have g := (Blk.new w2 26 #[.int .i64 9600, .int .i64 0, .int .i64 0]).below hb4 (by simp)
  obtain ⟨z0, z1, z2⟩ := g.c3
  go_wp2_with fail
  have hd := draw_walk 100 true false false false false false A3 2 2 exEs (-5) 3 2 w3 hS rfl (by omega)
  rw [ex_err, ex_draw, errV_zero] at hd
  refine hd.mono ?_
  clear hd
  rintro e w4 ⟨rfl, hb6⟩
  have hb7 := hb5.trans (hb6.mono hb5.size)
  have g4 := g.below hb6 g.lt
  clear z0 z1 z2
  obtain ⟨z0, z1, z2⟩ := g4.c3
  go_wp2
  go_ret
  exact ⟨rfl, hb7⟩

end Go.Proofs.Ytgnojdiecgfeaaa
