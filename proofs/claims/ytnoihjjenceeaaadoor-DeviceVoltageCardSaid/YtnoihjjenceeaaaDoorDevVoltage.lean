/- The walk of the statement DeviceVoltage. -/
import Derived.Test.YtnoihjjenceeaaaDoorDPlay
namespace Go.Proofs.YtnoihjjenceeaaaDoor
open Go.RowKit

theorem volt_off (s : Int) (hs : 0 ≤ s ∧ s ≤ 7) (on quick run reset link : Bool) : (s = 6 ∧ nx s on false quick run reset false link false false = 6) ∨ (¬ s = 6 ∧ nx s on false quick run reset false link false false = 1) ∨ (¬ s = 6 ∧ nx s on false quick run reset false link false false = 7) := by
  rcases st_cases hs with rfl | rfl | rfl | rfl | rfl | rfl | rfl | rfl <;> simp [nx]

set_option maxRecDepth 100000 in
set_option maxHeartbeats 1600000 in
theorem deviceVoltage_walk (A : Option Addr) (n c : Nat) (ds : List Dn) (word : Int) (link : Bool) (w : World) (hE : Sl w w.heap.size 5 A (ds.map Dn.row)) (hn : n = ds.length) (hc : Cw w) :
    Calls Tryd.prog 8 #[.slice A n c, .int .i64 word, .bool link] w fun e w' => e = .returned (.bool true) ∧ Below w.heap.size w w' := by
  have HN := Lib.hid hn
  clear hn
  by_cases hbig : 100 < n
  · go_enter Tryd.func8, Tryd.ntmps8
    go_wp2_with fail
    refine (awakeD_walk _ hc).mono ?_
    rintro e w1 ⟨rfl, hb1⟩
    go_wp2_with fail
    refine (awakeD_walk _ (hc.below hb1 hc.lt)).mono ?_
    rintro e w2 ⟨rfl, hb2⟩
    have hb3 := hb1.trans (hb2.mono hb1.size)
    go_wp2
    go_ret
    exact ⟨rfl, hb3⟩
  · have hpl := fun (W : World) (h : Sl W W.heap.size 5 A (ds.map Dn.row)) => play_walk 0 A n c ds W h HN.out (by omega) (by decide)
    have hsb := run_in (s := 0) (by decide) ds
    obtain ⟨S, hS⟩ : ∃ S, run 0 ds = S := ⟨_, rfl⟩
    simp only [hS] at hpl hsb
    obtain ⟨W2, hW2⟩ : ∃ W2, bits .andNot .i64 word 2 = W2 := ⟨_, rfl⟩
    have hbt : bt W2 2 = false := by rw [← hW2]; exact bt_andNot2 word
    have hnx := fun W => next_walk S W2 link false false false W hsb
    rw [hbt] at hnx
    have hvo := volt_off S hsb (bt W2 1) (bt W2 4) (bt W2 8) (bt W2 128) link
    obtain ⟨m, hm⟩ : ∃ m, nx S (bt W2 1) false (bt W2 4) (bt W2 8) (bt W2 128) false link false false = m := ⟨_, rfl⟩
    rw [hm] at hnx hvo
    have HPL := hide hpl
    have HNX := hide hnx
    have HVO := Lib.hid hvo
    clear hpl hnx hvo hm hbt hS hsb
    go_enter Tryd.func8, Tryd.ntmps8
    go_wp2_with fail
    refine (awakeD_walk _ hc).mono ?_
    rintro e w1 ⟨rfl, hb1⟩
    go_wp2_with fail
    refine ((unhide HPL) _ ((hE.below hb1).more hb1.size)).mono ?_
    rintro e w2 ⟨rfl, hb2⟩
    have hb3 := hb1.trans (hb2.mono hb1.size)
    go_wp2_with fail
    refine ((unhide HNX) _).mono ?_
    rintro e w4 ⟨rfl, hb4⟩
    have hb5 := hb3.trans (hb4.mono hb3.size)
    rcases HVO.out with ⟨rfl, rfl⟩ | ⟨hne, rfl⟩ | ⟨hne, rfl⟩
    · go_wp2
      go_ret
      exact ⟨rfl, hb5⟩
    · have e6 : (S == 6) = false := by simpa using hne
      have e7 : (S != 6) = true := by simpa using hne
      go_wp2_with fail
      refine (torque_walk 1 _).mono ?_
      rintro e w6 ⟨rfl, rfl⟩
      rw [show trq 1 = false from rfl]
      go_wp2_with fail
      refine (power_walk 1 _).mono ?_
      rintro e w6 ⟨rfl, rfl⟩
      rw [show pwr 1 = false from rfl]
      go_wp2
      go_ret
      exact ⟨rfl, hb5⟩
    · have e6 : (S == 6) = false := by simpa using hne
      have e7 : (S != 6) = true := by simpa using hne
      go_wp2_with fail
      refine (torque_walk 7 _).mono ?_
      rintro e w6 ⟨rfl, rfl⟩
      rw [show trq 7 = false from rfl]
      go_wp2_with fail
      refine (power_walk 7 _).mono ?_
      rintro e w6 ⟨rfl, rfl⟩
      rw [show pwr 7 = false from rfl]
      go_wp2
      go_ret
      exact ⟨rfl, hb5⟩

end Go.Proofs.YtnoihjjenceeaaaDoor
