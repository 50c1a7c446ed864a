/- Plain facts: with all switches off. -/
import Derived.Test.YtpfkiohknpeifaaIgC
namespace Go.Proofs.Ytpfkiohknpeifaa.I

def offs : List Bool := [false, false, false, false, false, false]
theorem chk_nil {per : Int} (h1 : 64 ≤ per) (h2 : per ≤ 4096) : chk per [] = 0 := by
  apply chk_good
  · simp only [perOk, Bool.and_eq_true, decide_eq_true_eq]; exact ⟨h1, h2⟩
  · intro i hi; simp at hi
theorem short_off (per : Int) : shortR per offs [] = false := by
  unfold shortR rowsF
  rw [List.any_eq_false]
  intro x hx
  obtain ⟨t, _, rfl⟩ := List.mem_map.1 hx
  simp [onAt, offs, shortB]
theorem err_off {per : Int} (h1 : 64 ≤ per) (h2 : per ≤ 4096) : err per offs [] = 0 := err_zero (chk_nil h1 h2) (short_off per)
theorem high_off {per : Int} (h1 : 64 ≤ per) (h2 : per ≤ 4096) (leg : Nat) (hl : leg < 3) (i : Int) : hgh per offs [] leg i = if i < 0 then per else 0 := by
  rw [hgh_cnt (err_off h1 h2)]
  unfold highR
  rw [show (fun t => highB leg (decide (i < 0)) (onAt offs [] t)) = fun _ => decide (i < 0) from by
    funext t
    match leg, hl with
    | 0, _ => simp [onAt, offs, highB]
    | 1, _ => simp [onAt, offs, highB]
    | 2, _ => simp [onAt, offs, highB]]
  rw [cnt_const]
  by_cases h : i < 0
  · simp [h]; omega
  · simp [h]
theorem amp_in {i : Int} (h1 : -2097152 ≤ i) (h2 : i ≤ 2097152) : amp i = i := by
  unfold amp clipI; rw [if_neg (by omega), if_neg (by omega)]
theorem mul_neg (per i : Int) : (if i < 0 then per else 0) * i = per * min i 0 := by
  split
  · rw [show min i 0 = i from by omega]
  · rw [show min i 0 = 0 from by omega]; simp
theorem draw_off {per a b : Int} (h1 : 64 ≤ per) (h2 : per ≤ 4096) (a1 : -1048576 ≤ a) (a2 : a ≤ 1048576) (b1 : -1048576 ≤ b) (b2 : b ≤ 1048576) :
    drawP per offs [] a b (-a - b) = min a 0 + min b 0 + min (-a - b) 0 := by
  unfold drawP
  rw [if_pos (err_off h1 h2), high_off h1 h2 0 (by omega), high_off h1 h2 1 (by omega), high_off h1 h2 2 (by omega)]
  unfold drawF
  rw [amp_in (i := a) (by omega) (by omega), amp_in (i := b) (by omega) (by omega), amp_in (i := -a - b) (by omega) (by omega), mul_neg, mul_neg, mul_neg, ← Int.mul_add, ← Int.mul_add]
  exact Int.mul_tdiv_cancel_left _ (by omega)

end Go.Proofs.Ytpfkiohknpeifaa.I
