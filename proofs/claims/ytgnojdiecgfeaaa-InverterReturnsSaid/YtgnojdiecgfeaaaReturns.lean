/- The walk of the statement InverterReturns. -/
import Derived.Test.YtgnojdiecgfeaaaAllOff
import Derived.Test.YtgnojdiecgfeaaaPlainC
namespace Go.Proofs.Ytgnojdiecgfeaaa
open Go.RowKit

theorem clipI_bd {n lo hi : Int} (h : lo ≤ hi) : lo ≤ clipI n lo hi ∧ clipI n lo hi ≤ hi := by
  unfold clipI; split
  · omega
  · split <;> omega

set_option maxHeartbeats 1600000 in
theorem inverterReturns_walk (p0 a0 c0 : Int) (w : World) :
    Calls Try.prog 6 #[.int .i64 p0, .int .i64 a0, .int .i64 c0] w fun e w' => e = .returned (.bool true) ∧ Below w.heap.size w w' := by
  obtain ⟨per, hper⟩ : ∃ per, clipI p0 64 4096 = per := ⟨_, rfl⟩
  obtain ⟨a, ha⟩ : ∃ a, clipI a0 (-1048576) 1048576 = a := ⟨_, rfl⟩
  obtain ⟨b, hb⟩ : ∃ b, clipI c0 (-1048576) 1048576 = b := ⟨_, rfl⟩
  obtain ⟨h1, h2⟩ : 64 ≤ per ∧ per ≤ 4096 := by rw [← hper]; exact clipI_bd (by omega)
  obtain ⟨a1, a2⟩ : -1048576 ≤ a ∧ a ≤ 1048576 := by rw [← ha]; exact clipI_bd (by omega)
  obtain ⟨b1, b2⟩ : -1048576 ≤ b ∧ b ≤ 1048576 := by rw [← hb]; exact clipI_bd (by omega)
  have HP := Lib.hid hper
  have HA := Lib.hid ha
  have HB := Lib.hid hb
  clear hper ha hb
  have hd := hide (draw_off h1 h2 a1 a2 b1 b2)
  have he := hide (err_off h1 h2)
  go_enter Try.func6, Try.ntmps6
  go_wp2_with fail
  refine (awake_walk _).mono ?_
  rintro e w1 ⟨rfl, hb1⟩
  go_wp2_with fail
  refine (clip_b a0 (-1048576) 1048576 (by omega) _).mono ?_
  rintro e w2 ⟨rfl, rfl⟩
  rw [HA.out]
  go_wp2_with fail
  refine (clip_b c0 (-1048576) 1048576 (by omega) _).mono ?_
  rintro e w2 ⟨rfl, rfl⟩
  rw [HB.out]
  go_wp2_with fail
  refine (clip_b p0 64 4096 (by omega) _).mono ?_
  rintro e w2 ⟨rfl, rfl⟩
  rw [HP.out]
  go_wp2_with fail
  have hbx := hb1.alloc hb1.size (.cells #[.int .i64 per, .bool false, .bool false, .bool false, .bool false, .bool false, .bool false, .slice none 0 0] 25)
  have hdw := draw_walk per false false false false false false none 0 0 [] a b (-a - b) _ (Sl.nil (w1.alloc (.cells #[.int .i64 per, .bool false, .bool false, .bool false, .bool false, .bool false, .bool false, .slice none 0 0] 25)) _ 3 none) rfl (by omega)
  rw [show [false, false, false, false, false, false] = offs from rfl, (unhide hd), (unhide he), errV_zero] at hdw
  refine hdw.mono ?_
  clear hdw
  rintro e w2 ⟨rfl, hb2⟩
  have hby := hbx.trans (hb2.mono hbx.size)
  have g := (Blk.new w1 25 #[.int .i64 per, .bool false, .bool false, .bool false, .bool false, .bool false, .bool false, .slice none 0 0]).below hb2 (by simp)
  obtain ⟨x0, x1, x2, x3, x4, x5, x6, x7⟩ := g.c8
  go_wp2_with fail
  have hal := allOff_walk per false false false false false false none 0 0 [] w2 (Sl.nil w2 _ 3 none) rfl (by omega)
  rw [show allOff false false false false false false [] = true from rfl] at hal
  refine hal.mono ?_
  clear hal
  rintro e w3 ⟨rfl, hb3⟩
  have hbz := hby.trans (hb3.mono hby.size)
  go_wp2
  all_goals go_ret
  all_goals exact ⟨congrArg (fun x => Ending.returned (.bool x)) (beq_iff_eq.2 (by omega)), hbz⟩

end Go.Proofs.Ytgnojdiecgfeaaa
