/- Park and the reference's; the difference of angles and the reference's. -/
import Derived.Test.YtpfkiohknpeifaaGreatPShaft2
import Derived.Test.YtpfkiohknpeifaaGreatMStep
namespace Go.Proofs.YtpfkiohknpeifaaGreat
open Go.RowKit
theorem parkM (x y n : Int) (hx : -1099511627776 ≤ x ∧ x ≤ 1099511627776) (hy : -1099511627776 ≤ y ∧ y ≤ 1099511627776) (w : World) :
    Calls Tryz.prog 92 #[.int .i64 x, .int .i64 y, .int .i64 n] w fun e w' => e = .returned (.tuple #[.int .i64 (turnU x y (-n)), .int .i64 (turnV x y (-n)), .nilIface]) ∧ Below w.heap.size w w' := by
  have ht := fun W => turnM x y (-(n % 65536)) hx hy W
  have em : (-(n % 65536)) % 65536 = (-n) % 65536 := by omega
  simp only [turnU_mod x y em, turnV_mod x y em] at ht
  have e1 : wrap64 (-(n % 65536)) = -(n % 65536) := by unfold wrap64; omega
  have hn := fun W => normM n W
  obtain ⟨m, hm⟩ : ∃ m, n % 65536 = m := ⟨_, rfl⟩
  simp only [hm] at ht e1 hn
  obtain ⟨U, hU⟩ : ∃ c, turnU x y (-n) = c := ⟨_, rfl⟩
  obtain ⟨V, hV⟩ : ∃ c, turnV x y (-n) = c := ⟨_, rfl⟩
  simp only [hU, hV] at ht ⊢
  have HT := hide ht
  have HN := hide hn
  clear ht hn hm em hU hV
  go_enter Tryz.func92, Tryz.ntmps92
  go_wp2_with (first | (go_at_call 98; (with_reducible refine ((unhide HN) _).mono ?_); rintro e w' ⟨rfl, rfl⟩))
  with_reducible refine ((unhide HT) _).mono ?_
  rintro e w1 ⟨rfl, hb⟩
  go_wp2
  refine bodyPost_ret (results_tmp3 rfl _ _ _) rfl ⟨rfl, hb⟩
theorem parkR (x y n : Int) (hx : -1099511627776 ≤ x ∧ x ≤ 1099511627776) (hy : -1099511627776 ≤ y ∧ y ≤ 1099511627776) (w : World) :
    Calls Tryz.prog 57 #[.int .i64 x, .int .i64 y, .int .i64 n] w fun e w' => e = .returned (.tuple #[.int .i64 (turnU x y (-n)), .int .i64 (turnV x y (-n)), .int .i64 0]) ∧ Below w.heap.size w w' := by
  have ht := fun W => turnR x y (-(n % 65536)) hx hy W
  have em : (-(n % 65536)) % 65536 = (-n) % 65536 := by omega
  simp only [turnU_mod x y em, turnV_mod x y em] at ht
  have e1 : wrap64 (-(n % 65536)) = -(n % 65536) := by unfold wrap64; omega
  have hn := fun W => normR n W
  obtain ⟨m, hm⟩ : ∃ m, n % 65536 = m := ⟨_, rfl⟩
  simp only [hm] at ht e1 hn
  obtain ⟨U, hU⟩ : ∃ c, turnU x y (-n) = c := ⟨_, rfl⟩
  obtain ⟨V, hV⟩ : ∃ c, turnV x y (-n) = c := ⟨_, rfl⟩
  simp only [hU, hV] at ht ⊢
  have HT := hide ht
  have HN := hide hn
  clear ht hn hm em hU hV
  go_enter Tryz.func57, Tryz.ntmps57
  go_wp2_with (first | (go_at_call 113; (with_reducible refine ((unhide HN) _).mono ?_); rintro e w' ⟨rfl, rfl⟩))
  with_reducible refine ((unhide HT) _).mono ?_
  rintro e w1 ⟨rfl, hb⟩
  go_wp2
  refine bodyPost_ret (results_tmp3 rfl _ _ _) rfl ⟨rfl, hb⟩
/-- The difference of two angles. -/
def difA (a b : Int) : Int := (a - b + 32768) % 65536 - 32768
theorem difA_bd (a b : Int) : -32768 ≤ difA a b ∧ difA a b ≤ 32767 := by unfold difA; omega
theorem difM (a b : Int) (w : World) (ha : 0 ≤ a ∧ a < 65536) (hb : 0 ≤ b ∧ b < 65536) : Calls Tryz.prog 44 #[.int .i64 a, .int .i64 b] w fun e w' => e = .returned (.int .i64 (difA a b)) ∧ w = w' := by
  have hn := fun W => normM (a - b + 32768) W
  have hd2 : (a - b + 32768) % 65536 - 32768 = difA a b := rfl
  have e1 : wrap64 (a - b) = a - b := by unfold wrap64; omega
  have e2 : wrap64 (a - b + 32768) = a - b + 32768 := by unfold wrap64; omega
  obtain ⟨m, hm⟩ : ∃ m, (a - b + 32768) % 65536 = m := ⟨_, rfl⟩
  have hm1 : 0 ≤ m ∧ m < 65536 := by omega
  have e3 : wrap64 (m - 32768) = m - 32768 := by unfold wrap64; omega
  simp only [hm] at hn hd2
  have HN := hide hn
  have HD2 := Lib.hid hd2
  clear hn hd2 hm
  go_enter Tryz.func44, Tryz.ntmps44
  go_wp2_with (first | (go_at_call 98; (with_reducible refine ((unhide HN) _).mono ?_); rintro e w' ⟨rfl, rfl⟩))
  go_ret
  exact ⟨by rw [← HD2.out]; rfl, rfl⟩
theorem difR (a b : Int) (w : World) (ha : 0 ≤ a ∧ a < 65536) (hb : 0 ≤ b ∧ b < 65536) : Calls Tryz.prog 61 #[.int .i64 a, .int .i64 b] w fun e w' => e = .returned (.int .i64 (difA a b)) ∧ w = w' := by
  have hn := fun W => normR a W
  have hn2 := fun W => normR b W
  have ea : a % 65536 = a := by omega
  have eb : b % 65536 = b := by omega
  simp only [ea] at hn
  simp only [eb] at hn2
  have hd : (a - b + 65536 + 32768).tmod 65536 - 32768 = difA a b := by rw [tmod_pos (by omega)]; unfold difA; omega
  have e1 : wrap64 (a - b) = a - b := by unfold wrap64; omega
  have e2 : wrap64 (a - b + 65536) = a - b + 65536 := by unfold wrap64; omega
  have e3 : wrap64 (a - b + 65536 + 32768) = a - b + 65536 + 32768 := by unfold wrap64; omega
  have tb := tmod_bd (a - b + 65536 + 32768)
  obtain ⟨m, hm⟩ : ∃ m, (a - b + 65536 + 32768).tmod 65536 = m := ⟨_, rfl⟩
  rw [hm] at hd tb
  have e4 : wrap64 m = m := by unfold wrap64; omega
  have e5 : wrap64 (m - 32768) = m - 32768 := by unfold wrap64; omega
  have HN := hide hn
  have HN2 := hide hn2
  have HD := Lib.hid hd
  clear hn hn2 hd ea eb
  go_enter Tryz.func61, Tryz.ntmps61
  go_wp2_with (first | (go_at_call 113; (with_reducible refine ((unhide HN) _).mono ?_); rintro e w' ⟨rfl, rfl⟩) | (go_at_call 113; (with_reducible refine ((unhide HN2) _).mono ?_); rintro e w' ⟨rfl, rfl⟩))
  go_ret
  exact ⟨by rw [← HD.out]; rfl, rfl⟩
end Go.Proofs.YtpfkiohknpeifaaGreat
