/- The small functions of the heat network: shares, warmth, losses, floors; and the reference's. -/
import Derived.Test.YtpfkiohknpeifaaGreatPHeatP
namespace Go.Proofs.YtpfkiohknpeifaaGreat
open Go.RowKit
theorem shareM (n : Int) (w : World) : Calls Tryz.prog 81 #[.int .i64 n] w fun e w' => e = .returned (.bool (wiB n 0 65536)) ∧ w = w' := by
  go_enter Tryz.func81, Tryz.ntmps81
  go_wp2
  all_goals go_ret
  all_goals exact ⟨congrArg (fun x => Ending.returned (.bool x)) (by first | (unfold wiB; symm; rw [decide_eq_true_eq]; omega) | (unfold wiB; symm; rw [decide_eq_false_iff_not]; omega) | (unfold wiB; rw [Bool.eq_iff_iff]; simp; omega)), rfl⟩
/-- The heat of a temperature. -/
def warmV (t : Int) : Int := clipI t (-8388608) 8388608 * 65536
theorem warmV_bd (t : Int) : -549755813888 ≤ warmV t ∧ warmV t ≤ 549755813888 := by
  have := clip_bd t (-8388608) 8388608 (by omega)
  unfold warmV
  omega
/-- The power that a current loses. -/
def lossV (cur num : Int) : Int := (clipI num 0 1048576 * clipI cur (-1048576) 1048576 * clipI cur (-1048576) 1048576).tdiv 1048576
theorem loss_bds (cur num : Int) : (-1099511627776 ≤ clipI num 0 1048576 * clipI cur (-1048576) 1048576 ∧ clipI num 0 1048576 * clipI cur (-1048576) 1048576 ≤ 1099511627776) ∧ 0 ≤ clipI num 0 1048576 * clipI cur (-1048576) 1048576 * clipI cur (-1048576) 1048576 ∧ clipI num 0 1048576 * clipI cur (-1048576) 1048576 * clipI cur (-1048576) 1048576 ≤ 1152921504606846976 := by
  have h1 := clip_bd num 0 1048576 (by omega)
  have h2 := clip_bd cur (-1048576) 1048576 (by omega)
  generalize clipI num 0 1048576 = a at *
  generalize clipI cur (-1048576) 1048576 = b at *
  have m1 := mul_bd (a := a) (b := b) (A := 1048576) (B := 1048576) (by omega) h2
  have m2 := mul_bd (a := a * b) (b := b) (A := 1099511627776) (B := 1048576) (by omega) h2
  have m3 : 0 ≤ b * b := by
    rcases Int.lt_or_le b 0 with h | h
    · have := Int.mul_nonneg (a := -b) (b := -b) (by omega) (by omega)
      rw [Int.neg_mul_neg] at this
      exact this
    · exact Int.mul_nonneg h h
  have m4 := Int.mul_nonneg h1.1 m3
  rw [← Int.mul_assoc] at m4
  omega
theorem lossV_bd (cur num : Int) : 0 ≤ lossV cur num ∧ lossV cur num ≤ 1099511627776 := by
  obtain ⟨_, h1, h2⟩ := loss_bds cur num
  unfold lossV
  rw [Int.tdiv_eq_ediv_of_nonneg h1]
  omega
theorem floor_eq2 (P : Int) : (if P.tmod 65536 < 0 then P.tdiv 65536 - 1 else P.tdiv 65536) = P / 65536 := by
  rw [← floor_eq]
  rcases Int.lt_or_le P 0 with h | h
  · rw [tmod_neg h]
    split <;> split <;> omega
  · rw [tmod_pos h, if_neg (by omega), if_neg (by omega)]
theorem warmM (t : Int) (w : World) : Calls Tryz.prog 76 #[.int .i64 t] w fun e w' => e = .returned (.int .i64 (warmV t)) ∧ w = w' := by
  have hc := fun W => clipHeM t (-8388608) 8388608 (by omega) W
  have hb := clip_bd t (-8388608) 8388608 (by omega)
  have hv : warmV t = clipI t (-8388608) 8388608 * 65536 := rfl
  obtain ⟨X, hX⟩ : ∃ x, clipI t (-8388608) 8388608 = x := ⟨_, rfl⟩
  simp only [hX] at hc hb hv
  have e1 : IntKind.i64.wrap (X * 65536) = X * 65536 := IntWalk.i64_in _ (by omega)
  have e2 : wrap64 (X * 65536) = X * 65536 := by unfold wrap64; omega
  have HC := hide hc
  have HV := Lib.hid hv
  clear hc hv hX
  go_enter Tryz.func76, Tryz.ntmps76
  go_wp2_with (first | (go_at_call 101; (with_reducible refine ((unhide HC) _).mono ?_); rintro e w' ⟨rfl, rfl⟩))
  go_ret
  exact ⟨by rw [HV.out]; rfl, rfl⟩
theorem warmR (t : Int) (w : World) : Calls Tryz.prog 34 #[.int .i64 t] w fun e w' => e = .returned (.int .i64 (warmV t)) ∧ w = w' := by
  have hc := fun W => clipHeR t (-8388608) 8388608 (by omega) W
  have hb := clip_bd t (-8388608) 8388608 (by omega)
  have hv : warmV t = clipI t (-8388608) 8388608 * 65536 := rfl
  obtain ⟨X, hX⟩ : ∃ x, clipI t (-8388608) 8388608 = x := ⟨_, rfl⟩
  simp only [hX] at hc hb hv
  have e1 : IntKind.i64.wrap (X * 65536) = X * 65536 := IntWalk.i64_in _ (by omega)
  have e2 : wrap64 (X * 65536) = X * 65536 := by unfold wrap64; omega
  have HC := hide hc
  have HV := Lib.hid hv
  clear hc hv hX
  go_enter Tryz.func34, Tryz.ntmps34
  go_wp2_with (first | (go_at_call 82; (with_reducible refine ((unhide HC) _).mono ?_); rintro e w' ⟨rfl, rfl⟩))
  go_ret
  exact ⟨by rw [HV.out]; rfl, rfl⟩
theorem lossM (cur num : Int) (w : World) : Calls Tryz.prog 100 #[.int .i64 cur, .int .i64 num] w fun e w' => e = .returned (.int .i64 (lossV cur num)) ∧ w = w' := by
  have hc := fun W => clipHeM cur (-1048576) 1048576 (by omega) W
  have hd := fun W => clipHeM num 0 1048576 (by omega) W
  have hv : lossV cur num = (clipI num 0 1048576 * clipI cur (-1048576) 1048576 * clipI cur (-1048576) 1048576).tdiv 1048576 := rfl
  obtain ⟨b1, b2⟩ := loss_bds cur num
  obtain ⟨X, hX⟩ : ∃ x, clipI cur (-1048576) 1048576 = x := ⟨_, rfl⟩
  obtain ⟨Y, hY⟩ : ∃ x, clipI num 0 1048576 = x := ⟨_, rfl⟩
  simp only [hX] at hc hv b1 b2
  simp only [hY] at hd hv b1 b2
  obtain ⟨U, hU⟩ : ∃ x, Y * X = x := ⟨_, rfl⟩
  rw [hU] at hv b1 b2
  have e1 : IntKind.i64.wrap (Y * X) = U := by rw [hU]; exact IntWalk.i64_in _ (by omega)
  have e1b : wrap64 (Y * X) = U := by rw [hU]; unfold wrap64; omega
  obtain ⟨V, hV⟩ : ∃ x, U * X = x := ⟨_, rfl⟩
  rw [hV] at hv b2
  have e2 : IntKind.i64.wrap (U * X) = V := by rw [hV]; exact IntWalk.i64_in _ (by omega)
  have e2b : wrap64 (U * X) = V := by rw [hV]; unfold wrap64; omega
  have hq := tdiv_abs V 1048576 (by omega) (B := 1152921504606846976) (by omega) (by omega)
  obtain ⟨Z, hZ⟩ : ∃ x, V.tdiv 1048576 = x := ⟨_, rfl⟩
  rw [hZ] at hv hq
  have e3 : IntKind.i64.wrap Z = Z := IntWalk.i64_in _ (by omega)
  have e4 : wrap64 Z = Z := by unfold wrap64; omega
  have HC := hide hc
  have HD := hide hd
  have HV := Lib.hid hv
  clear hc hd hv hX hY hU hV
  go_enter Tryz.func100, Tryz.ntmps100
  go_wp2_with (first | (go_at_call 101; (with_reducible refine ((unhide HC) _).mono ?_); rintro e w' ⟨rfl, rfl⟩) | (go_at_call 101; (with_reducible refine ((unhide HD) _).mono ?_); rintro e w' ⟨rfl, rfl⟩))
  go_ret
  exact ⟨by rw [HV.out]; rfl, rfl⟩
theorem lossR (cur num : Int) (w : World) : Calls Tryz.prog 119 #[.int .i64 cur, .int .i64 num] w fun e w' => e = .returned (.int .i64 (lossV cur num)) ∧ w = w' := by
  have hc := fun W => clipHeR cur (-1048576) 1048576 (by omega) W
  have hd := fun W => clipHeR num 0 1048576 (by omega) W
  have hv : lossV cur num = (clipI num 0 1048576 * clipI cur (-1048576) 1048576 * clipI cur (-1048576) 1048576).tdiv 1048576 := rfl
  obtain ⟨b1, b2⟩ := loss_bds cur num
  obtain ⟨X, hX⟩ : ∃ x, clipI cur (-1048576) 1048576 = x := ⟨_, rfl⟩
  obtain ⟨Y, hY⟩ : ∃ x, clipI num 0 1048576 = x := ⟨_, rfl⟩
  simp only [hX] at hc hv b1 b2
  simp only [hY] at hd hv b1 b2
  obtain ⟨U, hU⟩ : ∃ x, Y * X = x := ⟨_, rfl⟩
  rw [hU] at hv b1 b2
  have e1 : IntKind.i64.wrap (Y * X) = U := by rw [hU]; exact IntWalk.i64_in _ (by omega)
  have e1b : wrap64 (Y * X) = U := by rw [hU]; unfold wrap64; omega
  obtain ⟨V, hV⟩ : ∃ x, U * X = x := ⟨_, rfl⟩
  rw [hV] at hv b2
  have e2 : IntKind.i64.wrap (U * X) = V := by rw [hV]; exact IntWalk.i64_in _ (by omega)
  have e2b : wrap64 (U * X) = V := by rw [hV]; unfold wrap64; omega
  have hq := tdiv_abs V 1048576 (by omega) (B := 1152921504606846976) (by omega) (by omega)
  obtain ⟨Z, hZ⟩ : ∃ x, V.tdiv 1048576 = x := ⟨_, rfl⟩
  rw [hZ] at hv hq
  have e3 : IntKind.i64.wrap Z = Z := IntWalk.i64_in _ (by omega)
  have e4 : wrap64 Z = Z := by unfold wrap64; omega
  have HC := hide hc
  have HD := hide hd
  have HV := Lib.hid hv
  clear hc hd hv hX hY hU hV
  go_enter Tryz.func119, Tryz.ntmps119
  go_wp2_with (first | (go_at_call 82; (with_reducible refine ((unhide HC) _).mono ?_); rintro e w' ⟨rfl, rfl⟩) | (go_at_call 82; (with_reducible refine ((unhide HD) _).mono ?_); rintro e w' ⟨rfl, rfl⟩))
  go_ret
  exact ⟨by rw [HV.out]; rfl, rfl⟩
theorem floorR (P : Int) (w : World) (hP : -4611686018427387904 ≤ P ∧ P ≤ 4611686018427387904) : Calls Tryz.prog 118 #[.int .i64 P, .int .i64 65536] w fun e w' => e = .returned (.int .i64 (P / 65536)) ∧ w = w' := by
  have hf := floor_eq2 P
  have q := tdiv_abs P 65536 (by omega) hP.1 hP.2
  obtain ⟨D, hD⟩ : ∃ x, P.tdiv 65536 = x := ⟨_, rfl⟩
  obtain ⟨M, hM⟩ : ∃ x, P.tmod 65536 = x := ⟨_, rfl⟩
  obtain ⟨F, hF⟩ : ∃ x, P / 65536 = x := ⟨_, rfl⟩
  rw [hD] at hf q
  rw [hM, hF] at hf
  rw [hF]
  have e1 : wrap64 D = D := by unfold wrap64; omega
  have e2 : wrap64 (D - 1) = D - 1 := by unfold wrap64; omega
  have HF := Lib.hid hf
  clear hf hF
  go_enter Tryz.func118, Tryz.ntmps118
  by_cases h : M < 0
  · go_wp2
    go_ret
    exact ⟨by rw [← HF.out, if_pos h]; rfl, rfl⟩
  · go_wp2
    go_ret
    exact ⟨by rw [← HF.out, if_neg (by omega)]; rfl, rfl⟩
end Go.Proofs.YtpfkiohknpeifaaGreat
