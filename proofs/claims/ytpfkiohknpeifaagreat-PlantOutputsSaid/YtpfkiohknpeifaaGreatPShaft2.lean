/- The shaft: what is wrong with it, its angle, its speed after a tick, its state after a tick; and the reference's. -/
import Derived.Test.YtpfkiohknpeifaaGreatPShaft
import Derived.Test.YtpfkiohknpeifaaGreatMcC
namespace Go.Proofs.YtpfkiohknpeifaaGreat
open Go.RowKit
/-- What is wrong with a shaft. -/
def shCode (g d y : Int) : Int := if wiB g 0 1048576 = true ∧ wiB d 0 24 = true ∧ wiB y 0 16777216 = true then 0 else 3
theorem sh_ok {g d y : Int} (h : shCode g d y = 0) : (0 ≤ g ∧ g ≤ 1048576) ∧ (0 ≤ d ∧ d ≤ 24) ∧ 0 ≤ y ∧ y ≤ 16777216 := by
  unfold shCode at h
  split at h
  · rename_i h1
    exact ⟨wiB_iff.1 h1.1, wiB_iff.1 h1.2.1, wiB_iff.1 h1.2.2⟩
  · omega
/-- The damping of a speed. -/
def dampV (d v : Int) : Int := if 0 < d then v.tdiv (2 ^ d.toNat) else 0
/-- The way of the friction. -/
def wayV (v net : Int) : Int := if v = 0 then sgn net else sgn v
/-- The speed behind damping and torques. -/
def rawV (g d y v net : Int) : Int := v - dampV d v + ((net - wayV v net * y) * g).tdiv 65536
/-- The speed after a tick. -/
def spdV (g d y v net : Int) : Int :=
  if v = 0 ∧ wiB net (-y) y = true then 0
  else if wiB net (-y) y = true ∧ sgn (rawV g d y v net) = -sgn v then 0
  else clipI (rawV g d y v net) (-1073741824) 1073741824
/-- The net torque. -/
def netV (t l : Int) : Int := clipI t (-16777216) 16777216 - clipI l (-16777216) 16777216
/-- The speed and the position after a tick. -/
def nvV (g d y v t l : Int) : Int := spdV g d y (clipI v (-1073741824) 1073741824) (netV t l)
def npV (g d y p v t l : Int) : Int := wrapP (p + nvV g d y v t l)
theorem clip_bd (n lo hi : Int) (h : lo ≤ hi) : lo ≤ clipI n lo hi ∧ clipI n lo hi ≤ hi := by unfold clipI; split <;> (try split) <;> omega
theorem sgn_bd (n : Int) : -1 ≤ sgn n ∧ sgn n ≤ 1 := by unfold sgn; split <;> (try split) <;> omega
theorem netV_bd (t l : Int) : -33554432 ≤ netV t l ∧ netV t l ≤ 33554432 := by
  have h1 := clip_bd t (-16777216) 16777216 (by omega)
  have h2 := clip_bd l (-16777216) 16777216 (by omega)
  unfold netV
  omega
theorem spdV_bd (g d y v net : Int) : -1073741824 ≤ spdV g d y v net ∧ spdV g d y v net ≤ 1073741824 := by
  have h1 := clip_bd (rawV g d y v net) (-1073741824) 1073741824 (by omega)
  unfold spdV
  split
  · omega
  split <;> omega
theorem pow_bd {d : Int} (h0 : 0 ≤ d) (h1 : d ≤ 24) : 1 ≤ (2 : Int) ^ d.toNat ∧ (2 : Int) ^ d.toNat ≤ 16777216 := by
  have h2 : d.toNat ≤ 24 := by omega
  have h3 : (2 : Nat) ^ d.toNat ≤ 2 ^ 24 := Nat.pow_le_pow_right (by decide) h2
  have h4 : 1 ≤ (2 : Nat) ^ d.toNat := Nat.one_le_two_pow
  have h5 : ((2 : Nat) ^ d.toNat : Int) = (((2 : Nat) ^ d.toNat : Nat) : Int) := by simp
  have h6 : ((2 : Int) ^ d.toNat) = (((2 : Nat) ^ d.toNat : Nat) : Int) := by simp
  rw [h6]
  omega
theorem tdiv_abs (v k : Int) (hk : 1 ≤ k) {B : Int} (h1 : -B ≤ v) (h2 : v ≤ B) : -B ≤ v.tdiv k ∧ v.tdiv k ≤ B := by
  rcases Int.lt_or_le v 0 with h | h
  · have e : v = -(-v) := by omega
    rw [e, Int.neg_tdiv, Int.tdiv_eq_ediv_of_nonneg (by omega)]
    have h3 := Int.ediv_nonneg (a := -v) (b := k) (by omega) (by omega)
    have h4 := Int.ediv_le_self k (a := -v) (by omega)
    omega
  · rw [Int.tdiv_eq_ediv_of_nonneg h]
    have h3 := Int.ediv_nonneg (a := v) (b := k) (by omega) (by omega)
    have h4 := Int.ediv_le_self k (a := v) (by omega)
    omega
theorem wayV_bd (v net : Int) : -1 ≤ wayV v net ∧ wayV v net ≤ 1 := by
  have h1 := sgn_bd v
  have h2 := sgn_bd net
  unfold wayV
  split <;> omega
theorem way_y {W y : Int} (h : -1 ≤ W ∧ W ≤ 1) (hy : 0 ≤ y) : -y ≤ W * y ∧ W * y ≤ y := by
  rcases (by omega : W = -1 ∨ W = 0 ∨ W = 1) with r | r | r
  · subst r; omega
  · subst r; omega
  · subst r; omega
theorem gain_bd {n g : Int} (hn : -67108864 ≤ n ∧ n ≤ 67108864) (hg : 0 ≤ g ∧ g ≤ 1048576) : -70368744177664 ≤ n * g ∧ n * g ≤ 70368744177664 := by
  have h1 := Int.mul_le_mul hn.2 hg.2 hg.1 (by omega)
  have h2 := Int.mul_le_mul (a := -n) (c := 67108864) (by omega) hg.2 hg.1 (by omega)
  have h3 : -n * g = -(n * g) := Int.neg_mul n g
  omega
theorem dampV_bd {d v : Int} (hd : 0 ≤ d ∧ d ≤ 24) (hv : -1073741824 ≤ v ∧ v ≤ 1073741824) : -1073741824 ≤ dampV d v ∧ dampV d v ≤ 1073741824 := by
  unfold dampV
  split
  · exact tdiv_abs v _ (pow_bd hd.1 hd.2).1 hv.1 hv.2
  · omega
set_option maxRecDepth 100000 in
theorem shckM (g d y : Int) (w : World) : Calls Tryz.prog 31 #[.agg #[.int .i64 g, .int .i64 d, .int .i64 y]] w fun e w' => e = .returned (errV (shCode g d y)) ∧ Below w.heap.size w w' := by
  have hv0 : shCode g d y = if wiB g 0 1048576 = true ∧ wiB d 0 24 = true ∧ wiB y 0 16777216 = true then 0 else 3 := rfl
  have HV := Lib.hid hv0
  clear hv0
  have hb0 := (Below.refl w.heap.size w).alloc (Nat.le_refl _) (.cells #[.int .i64 g, .int .i64 d, .int .i64 y] 30)
  obtain ⟨y0, y1, y2⟩ := (Blk.new w 30 #[.int .i64 g, .int .i64 d, .int .i64 y]).c3
  go_enter Tryz.func31, Tryz.ntmps31
  rcases Bool.eq_false_or_eq_true (wiB g 0 1048576) with q1 | q1
  case inr =>
    go_wp2_with (first | (go_at_call 80; (with_reducible refine (wiShM _ _ _ _).mono ?_); rintro e w' ⟨rfl, rfl⟩))
    go_ret
    exact ⟨by rw [HV.out, if_neg (by rw [q1]; simp)]; rfl, hb0⟩
  rcases Bool.eq_false_or_eq_true (wiB d 0 24) with q2 | q2
  case inr =>
    go_wp2_with (first | (go_at_call 80; (with_reducible refine (wiShM _ _ _ _).mono ?_); rintro e w' ⟨rfl, rfl⟩))
    go_ret
    exact ⟨by rw [HV.out, if_neg (by rw [q2]; simp)]; rfl, hb0⟩
  rcases Bool.eq_false_or_eq_true (wiB y 0 16777216) with q3 | q3
  case inr =>
    go_wp2_with (first | (go_at_call 80; (with_reducible refine (wiShM _ _ _ _).mono ?_); rintro e w' ⟨rfl, rfl⟩))
    go_ret
    exact ⟨by rw [HV.out, if_neg (by rw [q3]; simp)]; rfl, hb0⟩
  go_wp2_with (first | (go_at_call 80; (with_reducible refine (wiShM _ _ _ _).mono ?_); rintro e w' ⟨rfl, rfl⟩))
  go_ret
  exact ⟨by rw [HV.out, if_pos ⟨q1, q2, q3⟩]; rfl, hb0⟩
set_option maxRecDepth 100000 in
theorem shckR (g d y : Int) (w : World) : Calls Tryz.prog 24 #[.agg #[.int .i64 g, .int .i64 d, .int .i64 y]] w fun e w' => e = .returned (.int .i64 (shCode g d y)) ∧ Below w.heap.size w w' := by
  have hv0 : shCode g d y = if wiB g 0 1048576 = true ∧ wiB d 0 24 = true ∧ wiB y 0 16777216 = true then 0 else 3 := rfl
  have HV := Lib.hid hv0
  clear hv0
  have hb0 := (Below.refl w.heap.size w).alloc (Nat.le_refl _) (.cells #[.int .i64 g, .int .i64 d, .int .i64 y] 30)
  obtain ⟨y0, y1, y2⟩ := (Blk.new w 30 #[.int .i64 g, .int .i64 d, .int .i64 y]).c3
  go_enter Tryz.func24, Tryz.ntmps24
  rcases Bool.eq_false_or_eq_true (wiB g 0 1048576) with q1 | q1
  case inr =>
    go_wp2_with (first | (go_at_call 73; (with_reducible refine (wiShR _ _ _ _).mono ?_); rintro e w' ⟨rfl, rfl⟩))
    go_ret
    exact ⟨by rw [HV.out, if_neg (by rw [q1]; simp)]; rfl, hb0⟩
  rcases Bool.eq_false_or_eq_true (wiB d 0 24) with q2 | q2
  case inr =>
    go_wp2_with (first | (go_at_call 73; (with_reducible refine (wiShR _ _ _ _).mono ?_); rintro e w' ⟨rfl, rfl⟩))
    go_ret
    exact ⟨by rw [HV.out, if_neg (by rw [q2]; simp)]; rfl, hb0⟩
  rcases Bool.eq_false_or_eq_true (wiB y 0 16777216) with q3 | q3
  case inr =>
    go_wp2_with (first | (go_at_call 73; (with_reducible refine (wiShR _ _ _ _).mono ?_); rintro e w' ⟨rfl, rfl⟩))
    go_ret
    exact ⟨by rw [HV.out, if_neg (by rw [q3]; simp)]; rfl, hb0⟩
  go_wp2_with (first | (go_at_call 73; (with_reducible refine (wiShR _ _ _ _).mono ?_); rintro e w' ⟨rfl, rfl⟩))
  go_ret
  exact ⟨by rw [HV.out, if_pos ⟨q1, q2, q3⟩]; rfl, hb0⟩
theorem angleM (p v : Int) (w : World) : Calls Tryz.prog 39 #[.agg #[.int .i64 p, .int .i64 v]] w fun e w' => e = .returned (.int .i64 (angP p)) ∧ Below w.heap.size w w' := by
  have hb0 := (Below.refl w.heap.size w).alloc (Nat.le_refl _) (.cells #[.int .i64 p, .int .i64 v] 45)
  obtain ⟨y0, y1⟩ := (Blk.new w 45 #[.int .i64 p, .int .i64 v]).c2
  have h1 := and_65535 (wrapP p / 65536)
  have hv : wrapP p / 65536 % 65536 = angP p := rfl
  rw [hv] at h1
  go_enter Tryz.func39, Tryz.ntmps39
  go_wp2_with (first | (go_at_call 65; (with_reducible refine (wrapM _ _).mono ?_); rintro e w' ⟨rfl, rfl⟩))
  go_ret
  exact ⟨rfl, hb0⟩
theorem floor_eq (P : Int) : (if P < 0 ∧ P.tmod 65536 ≠ 0 then P.tdiv 65536 - 1 else P.tdiv 65536) = P / 65536 := by
  rcases Int.lt_or_le P 0 with h | h
  · have e : P = -(-P) := by omega
    rw [tmod_neg h]
    have e2 : P.tdiv 65536 = -((-P) / 65536) := by
      rw [e, Int.neg_tdiv, Int.tdiv_eq_ediv_of_nonneg (by omega), Int.neg_neg]
    rw [e2]
    split <;> omega
  · rw [if_neg (by omega), Int.tdiv_eq_ediv_of_nonneg h]
theorem angleR (p v : Int) (w : World) : Calls Tryz.prog 51 #[.agg #[.int .i64 p, .int .i64 v]] w fun e w' => e = .returned (.int .i64 (angP p)) ∧ Below w.heap.size w w' := by
  have hb0 := (Below.refl w.heap.size w).alloc (Nat.le_refl _) (.cells #[.int .i64 p, .int .i64 v] 45)
  obtain ⟨y0, y1⟩ := (Blk.new w 45 #[.int .i64 p, .int .i64 v]).c2
  have hw := wrapR p
  have hb := wrapP_bd p
  have hf := floor_eq (wrapP p)
  have hv : angP p = wrapP p / 65536 % 65536 := rfl
  rw [hv]
  clear hv
  obtain ⟨P, hP⟩ : ∃ P, wrapP p = P := ⟨_, rfl⟩
  simp only [hP] at hw hb hf ⊢
  have HW := hide hw
  clear hw hP
  have t1 : P.tmod 65536 = 0 ↔ 65536 * P.tdiv 65536 = P := by have := Int.tmod_add_mul_tdiv P 65536; omega
  have t2 : -1099511627776 ≤ P.tdiv 65536 ∧ P.tdiv 65536 ≤ 1099511627776 := by
    have e := Int.tmod_add_mul_tdiv P 65536
    have b := tmod_bd P
    omega
  obtain ⟨D, hD⟩ : ∃ D, P.tdiv 65536 = D := ⟨_, rfl⟩
  obtain ⟨M, hM⟩ : ∃ M, P.tmod 65536 = M := ⟨_, rfl⟩
  rw [hD] at t2 hf
  rw [hM] at hf
  clear t1
  rw [← hf]
  have z := fun x : Int => norm_eq x
  have zb := fun x : Int => tmod_bd x
  have e3 : wrap64 D = D := by unfold wrap64; omega
  have e4 : wrap64 (D - 1) = D - 1 := by unfold wrap64; omega
  have n1 := norm_eq D
  have n2 := norm_eq (D - 1)
  have b1 := tmod_bd D
  have b2 := tmod_bd (D - 1)
  have c1 : wrap64 (D.tmod 65536 + 65536) = D.tmod 65536 + 65536 := by unfold wrap64; omega
  have c2 : wrap64 ((D - 1).tmod 65536 + 65536) = (D - 1).tmod 65536 + 65536 := by unfold wrap64; omega
  clear z zb hf
  go_enter Tryz.func51, Tryz.ntmps51
  by_cases h1 : P < 0
  · by_cases h2 : M = 0
    · subst h2
      go_wp2_with (first | (go_at_call 67; (with_reducible refine ((unhide HW) _).mono ?_); rintro e w' ⟨rfl, rfl⟩))
      go_ret
      exact ⟨rfl, hb0⟩
    · go_wp2_with (first | (go_at_call 67; (with_reducible refine ((unhide HW) _).mono ?_); rintro e w' ⟨rfl, rfl⟩))
      go_ret
      exact ⟨rfl, hb0⟩
  · go_wp2_with (first | (go_at_call 67; (with_reducible refine ((unhide HW) _).mono ?_); rintro e w' ⟨rfl, rfl⟩))
    go_ret
    exact ⟨rfl, hb0⟩
set_option maxRecDepth 100000 in
set_option maxHeartbeats 3200000 in
theorem speedM (g d y v net : Int) (w : World) (hg : 0 ≤ g ∧ g ≤ 1048576) (hd : 0 ≤ d ∧ d ≤ 24) (hy : 0 ≤ y ∧ y ≤ 16777216) (hv : -1073741824 ≤ v ∧ v ≤ 1073741824) (hn : -33554432 ≤ net ∧ net ≤ 33554432) :
    Calls Tryz.prog 97 #[.agg #[.int .i64 g, .int .i64 d, .int .i64 y], .int .i64 v, .int .i64 net] w fun e w' => e = .returned (.int .i64 (spdV g d y v net)) ∧ Below w.heap.size w w' := by
  have hb0 := (Below.refl w.heap.size w).alloc (Nat.le_refl _) (.cells #[.int .i64 g, .int .i64 d, .int .i64 y] 30)
  obtain ⟨y0, y1, y2⟩ := (Blk.new w 30 #[.int .i64 g, .int .i64 d, .int .i64 y]).c3
  have hs := sgn_bd v
  have hr0 : rawV g d y v net = v - dampV d v + ((net - wayV v net * y) * g).tdiv 65536 := rfl
  have hp := pow_bd hd.1 hd.2
  have hw := wayV_bd v net
  have hwy := way_y hw hy.1
  have hgb := gain_bd (n := net - wayV v net * y) (by omega) hg
  have hdv := dampV_bd hd hv
  have hq := tdiv_abs ((net - wayV v net * y) * g) 65536 (by omega) hgb.1 hgb.2
  have HS : Hid (spdV g d y v net = if v = 0 ∧ wiB net (-y) y = true then 0 else if wiB net (-y) y = true ∧ sgn (rawV g d y v net) = -sgn v then 0 else clipI (rawV g d y v net) (-1073741824) 1073741824) := Lib.hid (by rfl)
  have e1 : wrap64 (-y) = -y := by unfold wrap64; omega
  have hwv : wayV v net = if v = 0 then sgn net else sgn v := rfl
  have hdm : dampV d v = if 0 < d then v.tdiv (2 ^ d.toNat) else 0 := rfl
  obtain ⟨DV, hDV⟩ : ∃ x, dampV d v = x := ⟨_, rfl⟩
  rw [hDV] at hr0 hdm hdv
  obtain ⟨SW, hSW⟩ : ∃ x, wayV v net = x := ⟨_, rfl⟩
  rw [hSW] at hr0 hwv hw hwy hgb hq
  obtain ⟨WY, hWY⟩ : ∃ x, SW * y = x := ⟨_, rfl⟩
  have hWY2 : SW * y = WY := hWY
  rw [hWY2] at hr0 hwy hgb hq
  have e2 : wrap64 WY = WY := by unfold wrap64; omega
  have e2' : IntKind.i64.wrap (SW * y) = WY := by rw [hWY]; exact IntWalk.i64_in _ (by omega)
  have e3 : wrap64 (net - WY) = net - WY := by unfold wrap64; omega
  obtain ⟨G, hG⟩ : ∃ x, (net - WY) * g = x := ⟨_, rfl⟩
  rw [hG] at hr0 hgb hq
  have e4' : IntKind.i64.wrap ((net - WY) * g) = G := by rw [hG]; exact IntWalk.i64_in _ (by omega)
  have e5 : wrap64 (v - DV) = v - DV := by unfold wrap64; omega
  obtain ⟨G2, hG2⟩ : ∃ x, G.tdiv 65536 = x := ⟨_, rfl⟩
  rw [hG2] at hr0 hq
  have e6 : wrap64 (v - DV + G2) = v - DV + G2 := by unfold wrap64; omega
  have e8 : wrap64 G2 = G2 := by unfold wrap64; omega
  obtain ⟨SV, hSV⟩ : ∃ S, sgn v = S := ⟨_, rfl⟩
  rw [hSV] at hs
  have e7 : wrap64 (-SV) = -SV := by unfold wrap64; omega
  rw [hr0, hSV] at HS
  obtain ⟨SO, hSO⟩ : ∃ S, sgn (v - DV + G2) = S := ⟨_, rfl⟩
  obtain ⟨CL, hCL⟩ : ∃ S, clipI (v - DV + G2) (-1073741824) 1073741824 = S := ⟨_, rfl⟩
  rw [hSO, hCL] at HS
  rw [hSV] at hwv
  have sV := fun W => signM v W
  have sN := fun W => signM net W
  have sO := fun W => signM (v - DV + G2) W
  have cO := fun W => clipShM (v - DV + G2) (-1073741824) 1073741824 (by omega) W
  have wN := fun W => wiShM net (-y) y W
  simp only [hSV] at sV
  simp only [hSO] at sO
  simp only [hCL] at cO
  obtain ⟨sm, hsm⟩ : ∃ b, wiB net (-y) y = b := ⟨_, rfl⟩
  simp only [hsm] at wN HS
  obtain ⟨K, hK⟩ : ∃ K, (2 : Int) ^ d.toNat = K := ⟨_, rfl⟩
  rw [hK] at hp hdm
  have eK : wrap64 K = K := by unfold wrap64; omega
  have k0 : ¬ K = 0 := by omega
  have k1 : ¬ K = -1 := by omega
  have eK2 : IntKind.i64.wrap K = K := IntWalk.i64_in _ (by omega)
  have eDV : IntKind.i64.wrap DV = DV := IntWalk.i64_in _ (by omega)
  have eDV2 : wrap64 DV = DV := by unfold wrap64; omega
  have hd0 := hd.1
  obtain ⟨SN, hSN⟩ : ∃ S, sgn net = S := ⟨_, rfl⟩
  simp only [hSN] at sN hwv
  have SVH := hide sV
  have SNH := hide sN
  have SOH := hide sO
  have COH := hide cO
  have WNH := hide wN
  clear sV sN sO cO wN hdv hwy hw hgb hq hr0 hSO hCL hsm hDV hSW hG hWY hWY2
  by_cases z : v = 0
  · subst z
    rw [if_pos rfl] at hwv
    subst hwv
    have s0 : SV = 0 := by rw [← hSV]; rfl
    subst s0
    have d0 : DV = 0 := by rw [hdm]; split <;> simp
    subst d0
    clear hdm
    simp only [Int.sub_zero, Int.zero_add] at SOH COH HS e6 e5
    cases sm
    · by_cases hd1 : 0 < d
      · go_enter Tryz.func97, Tryz.ntmps97
        go_wp2_with (first | (go_at_call 80; (with_reducible refine ((unhide WNH) _).mono ?_); rintro e w' ⟨rfl, rfl⟩) | (go_at_call 136; (with_reducible refine ((unhide SVH) _).mono ?_); rintro e w' ⟨rfl, rfl⟩) | (go_at_call 136; (with_reducible refine ((unhide SNH) _).mono ?_); rintro e w' ⟨rfl, rfl⟩) | (go_at_call 136; (with_reducible refine ((unhide SOH) _).mono ?_); rintro e w' ⟨rfl, rfl⟩) | (go_at_call 96; (with_reducible refine ((unhide COH) _).mono ?_); rintro e w' ⟨rfl, rfl⟩))
        go_ret
        exact ⟨by rw [HS.out]; simp; try rfl, by first | exact hb0 | exact below_drewN hb0 _ | exact below_drewN (below_drewN hb0 _) _⟩
      · go_enter Tryz.func97, Tryz.ntmps97
        go_wp2_with (first | (go_at_call 80; (with_reducible refine ((unhide WNH) _).mono ?_); rintro e w' ⟨rfl, rfl⟩) | (go_at_call 136; (with_reducible refine ((unhide SVH) _).mono ?_); rintro e w' ⟨rfl, rfl⟩) | (go_at_call 136; (with_reducible refine ((unhide SNH) _).mono ?_); rintro e w' ⟨rfl, rfl⟩) | (go_at_call 136; (with_reducible refine ((unhide SOH) _).mono ?_); rintro e w' ⟨rfl, rfl⟩) | (go_at_call 96; (with_reducible refine ((unhide COH) _).mono ?_); rintro e w' ⟨rfl, rfl⟩))
        go_ret
        exact ⟨by rw [HS.out]; simp; try rfl, by first | exact hb0 | exact below_drewN hb0 _ | exact below_drewN (below_drewN hb0 _) _⟩
    · go_enter Tryz.func97, Tryz.ntmps97
      go_wp2_with (first | (go_at_call 80; (with_reducible refine ((unhide WNH) _).mono ?_); rintro e w' ⟨rfl, rfl⟩) | (go_at_call 136; (with_reducible refine ((unhide SVH) _).mono ?_); rintro e w' ⟨rfl, rfl⟩) | (go_at_call 136; (with_reducible refine ((unhide SNH) _).mono ?_); rintro e w' ⟨rfl, rfl⟩) | (go_at_call 136; (with_reducible refine ((unhide SOH) _).mono ?_); rintro e w' ⟨rfl, rfl⟩) | (go_at_call 96; (with_reducible refine ((unhide COH) _).mono ?_); rintro e w' ⟨rfl, rfl⟩))
      go_ret
      exact ⟨by rw [HS.out]; rfl, by first | exact hb0 | exact below_drewN hb0 _ | exact below_drewN (below_drewN hb0 _) _⟩
  · rw [if_neg z] at hwv
    subst hwv
    cases sm
    · by_cases hd1 : 0 < d
      · rw [if_pos hd1] at hdm
        have hdm' := hdm.symm
        clear hdm
        go_enter Tryz.func97, Tryz.ntmps97
        go_wp2_with (first | (go_at_call 80; (with_reducible refine ((unhide WNH) _).mono ?_); rintro e w' ⟨rfl, rfl⟩) | (go_at_call 136; (with_reducible refine ((unhide SVH) _).mono ?_); rintro e w' ⟨rfl, rfl⟩) | (go_at_call 136; (with_reducible refine ((unhide SNH) _).mono ?_); rintro e w' ⟨rfl, rfl⟩) | (go_at_call 136; (with_reducible refine ((unhide SOH) _).mono ?_); rintro e w' ⟨rfl, rfl⟩) | (go_at_call 96; (with_reducible refine ((unhide COH) _).mono ?_); rintro e w' ⟨rfl, rfl⟩))
        go_ret
        exact ⟨by rw [HS.out]; simp; try rfl, by first | exact hb0 | exact below_drewN hb0 _ | exact below_drewN (below_drewN hb0 _) _⟩
      · rw [if_neg hd1] at hdm
        subst hdm
        simp only [Int.sub_zero] at SOH COH HS e6 e5
        go_enter Tryz.func97, Tryz.ntmps97
        go_wp2_with (first | (go_at_call 80; (with_reducible refine ((unhide WNH) _).mono ?_); rintro e w' ⟨rfl, rfl⟩) | (go_at_call 136; (with_reducible refine ((unhide SVH) _).mono ?_); rintro e w' ⟨rfl, rfl⟩) | (go_at_call 136; (with_reducible refine ((unhide SNH) _).mono ?_); rintro e w' ⟨rfl, rfl⟩) | (go_at_call 136; (with_reducible refine ((unhide SOH) _).mono ?_); rintro e w' ⟨rfl, rfl⟩) | (go_at_call 96; (with_reducible refine ((unhide COH) _).mono ?_); rintro e w' ⟨rfl, rfl⟩))
        go_ret
        exact ⟨by rw [HS.out]; simp; try rfl, by first | exact hb0 | exact below_drewN hb0 _ | exact below_drewN (below_drewN hb0 _) _⟩
    · by_cases o : SO = -SW
      · by_cases hd1 : 0 < d
        · rw [if_pos hd1] at hdm
          have hdm' := hdm.symm
          clear hdm
          go_enter Tryz.func97, Tryz.ntmps97
          go_wp2_with (first | (go_at_call 80; (with_reducible refine ((unhide WNH) _).mono ?_); rintro e w' ⟨rfl, rfl⟩) | (go_at_call 136; (with_reducible refine ((unhide SVH) _).mono ?_); rintro e w' ⟨rfl, rfl⟩) | (go_at_call 136; (with_reducible refine ((unhide SNH) _).mono ?_); rintro e w' ⟨rfl, rfl⟩) | (go_at_call 136; (with_reducible refine ((unhide SOH) _).mono ?_); rintro e w' ⟨rfl, rfl⟩) | (go_at_call 96; (with_reducible refine ((unhide COH) _).mono ?_); rintro e w' ⟨rfl, rfl⟩))
          go_ret
          exact ⟨by rw [HS.out, if_neg (by simp [z]), if_pos (by simp [o])]; rfl, by first | exact hb0 | exact below_drewN hb0 _ | exact below_drewN (below_drewN hb0 _) _⟩
        · rw [if_neg hd1] at hdm
          subst hdm
          simp only [Int.sub_zero] at SOH COH HS e6 e5
          go_enter Tryz.func97, Tryz.ntmps97
          go_wp2_with (first | (go_at_call 80; (with_reducible refine ((unhide WNH) _).mono ?_); rintro e w' ⟨rfl, rfl⟩) | (go_at_call 136; (with_reducible refine ((unhide SVH) _).mono ?_); rintro e w' ⟨rfl, rfl⟩) | (go_at_call 136; (with_reducible refine ((unhide SNH) _).mono ?_); rintro e w' ⟨rfl, rfl⟩) | (go_at_call 136; (with_reducible refine ((unhide SOH) _).mono ?_); rintro e w' ⟨rfl, rfl⟩) | (go_at_call 96; (with_reducible refine ((unhide COH) _).mono ?_); rintro e w' ⟨rfl, rfl⟩))
          go_ret
          exact ⟨by rw [HS.out, if_neg (by simp [z]), if_pos (by simp [o])]; rfl, by first | exact hb0 | exact below_drewN hb0 _ | exact below_drewN (below_drewN hb0 _) _⟩
      · by_cases hd1 : 0 < d
        · rw [if_pos hd1] at hdm
          have hdm' := hdm.symm
          clear hdm
          go_enter Tryz.func97, Tryz.ntmps97
          go_wp2_with (first | (go_at_call 80; (with_reducible refine ((unhide WNH) _).mono ?_); rintro e w' ⟨rfl, rfl⟩) | (go_at_call 136; (with_reducible refine ((unhide SVH) _).mono ?_); rintro e w' ⟨rfl, rfl⟩) | (go_at_call 136; (with_reducible refine ((unhide SNH) _).mono ?_); rintro e w' ⟨rfl, rfl⟩) | (go_at_call 136; (with_reducible refine ((unhide SOH) _).mono ?_); rintro e w' ⟨rfl, rfl⟩) | (go_at_call 96; (with_reducible refine ((unhide COH) _).mono ?_); rintro e w' ⟨rfl, rfl⟩))
          go_ret
          exact ⟨by rw [HS.out, if_neg (by simp [z]), if_neg (by simp [o])]; rfl, by first | exact hb0 | exact below_drewN hb0 _ | exact below_drewN (below_drewN hb0 _) _⟩
        · rw [if_neg hd1] at hdm
          subst hdm
          simp only [Int.sub_zero] at SOH COH HS e6 e5
          go_enter Tryz.func97, Tryz.ntmps97
          go_wp2_with (first | (go_at_call 80; (with_reducible refine ((unhide WNH) _).mono ?_); rintro e w' ⟨rfl, rfl⟩) | (go_at_call 136; (with_reducible refine ((unhide SVH) _).mono ?_); rintro e w' ⟨rfl, rfl⟩) | (go_at_call 136; (with_reducible refine ((unhide SNH) _).mono ?_); rintro e w' ⟨rfl, rfl⟩) | (go_at_call 136; (with_reducible refine ((unhide SOH) _).mono ?_); rintro e w' ⟨rfl, rfl⟩) | (go_at_call 96; (with_reducible refine ((unhide COH) _).mono ?_); rintro e w' ⟨rfl, rfl⟩))
          go_ret
          exact ⟨by rw [HS.out, if_neg (by simp [z]), if_neg (by simp [o])]; rfl, by first | exact hb0 | exact below_drewN hb0 _ | exact below_drewN (below_drewN hb0 _) _⟩
set_option maxRecDepth 100000 in
set_option maxHeartbeats 3200000 in
theorem speedR (g d y v net : Int) (w : World) (hg : 0 ≤ g ∧ g ≤ 1048576) (hd : 0 ≤ d ∧ d ≤ 24) (hy : 0 ≤ y ∧ y ≤ 16777216) (hv : -1073741824 ≤ v ∧ v ≤ 1073741824) (hn : -33554432 ≤ net ∧ net ≤ 33554432) :
    Calls Tryz.prog 115 #[.agg #[.int .i64 g, .int .i64 d, .int .i64 y], .int .i64 v, .int .i64 net] w fun e w' => e = .returned (.int .i64 (spdV g d y v net)) ∧ Below w.heap.size w w' := by
  have hb0 := (Below.refl w.heap.size w).alloc (Nat.le_refl _) (.cells #[.int .i64 g, .int .i64 d, .int .i64 y] 30)
  obtain ⟨y0, y1, y2⟩ := (Blk.new w 30 #[.int .i64 g, .int .i64 d, .int .i64 y]).c3
  have hs := sgn_bd v
  have hr0 : rawV g d y v net = v - dampV d v + ((net - wayV v net * y) * g).tdiv 65536 := rfl
  have hp := pow_bd hd.1 hd.2
  have hw := wayV_bd v net
  have hwy := way_y hw hy.1
  have hgb := gain_bd (n := net - wayV v net * y) (by omega) hg
  have hdv := dampV_bd hd hv
  have hq := tdiv_abs ((net - wayV v net * y) * g) 65536 (by omega) hgb.1 hgb.2
  have HS : Hid (spdV g d y v net = if v = 0 ∧ wiB net (-y) y = true then 0 else if wiB net (-y) y = true ∧ sgn (rawV g d y v net) = -sgn v then 0 else clipI (rawV g d y v net) (-1073741824) 1073741824) := Lib.hid (by rfl)
  have e1 : wrap64 (-y) = -y := by unfold wrap64; omega
  have hwv : wayV v net = if v = 0 then sgn net else sgn v := rfl
  have hdm : dampV d v = if 0 < d then v.tdiv (2 ^ d.toNat) else 0 := rfl
  obtain ⟨DV, hDV⟩ : ∃ x, dampV d v = x := ⟨_, rfl⟩
  rw [hDV] at hr0 hdm hdv
  obtain ⟨SW, hSW⟩ : ∃ x, wayV v net = x := ⟨_, rfl⟩
  rw [hSW] at hr0 hwv hw hwy hgb hq
  obtain ⟨WY, hWY⟩ : ∃ x, y * SW = x := ⟨_, rfl⟩
  have hWY2 : SW * y = WY := by rw [← hWY]; exact Int.mul_comm _ _
  rw [hWY2] at hr0 hwy hgb hq
  have e2 : wrap64 WY = WY := by unfold wrap64; omega
  have e2' : IntKind.i64.wrap (y * SW) = WY := by rw [hWY]; exact IntWalk.i64_in _ (by omega)
  have e3 : wrap64 (net - WY) = net - WY := by unfold wrap64; omega
  obtain ⟨G, hG⟩ : ∃ x, (net - WY) * g = x := ⟨_, rfl⟩
  rw [hG] at hr0 hgb hq
  have e4' : IntKind.i64.wrap ((net - WY) * g) = G := by rw [hG]; exact IntWalk.i64_in _ (by omega)
  have e5 : wrap64 (v - DV) = v - DV := by unfold wrap64; omega
  obtain ⟨G2, hG2⟩ : ∃ x, G.tdiv 65536 = x := ⟨_, rfl⟩
  rw [hG2] at hr0 hq
  have e6 : wrap64 (v - DV + G2) = v - DV + G2 := by unfold wrap64; omega
  have e8 : wrap64 G2 = G2 := by unfold wrap64; omega
  obtain ⟨SV, hSV⟩ : ∃ S, sgn v = S := ⟨_, rfl⟩
  rw [hSV] at hs
  have e7 : wrap64 (-SV) = -SV := by unfold wrap64; omega
  rw [hr0, hSV] at HS
  obtain ⟨SO, hSO⟩ : ∃ S, sgn (v - DV + G2) = S := ⟨_, rfl⟩
  obtain ⟨CL, hCL⟩ : ∃ S, clipI (v - DV + G2) (-1073741824) 1073741824 = S := ⟨_, rfl⟩
  rw [hSO, hCL] at HS
  rw [hSV] at hwv
  have sV := fun W => signR v W
  have sN := fun W => signR net W
  have sO := fun W => signR (v - DV + G2) W
  have cO := fun W => clipShR (v - DV + G2) (-1073741824) 1073741824 (by omega) W
  have wN := fun W => wiShR net (-y) y W
  simp only [hSV] at sV
  simp only [hSO] at sO
  simp only [hCL] at cO
  obtain ⟨sm, hsm⟩ : ∃ b, wiB net (-y) y = b := ⟨_, rfl⟩
  simp only [hsm] at wN HS
  obtain ⟨K, hK⟩ : ∃ K, (2 : Int) ^ d.toNat = K := ⟨_, rfl⟩
  rw [hK] at hp hdm
  have eK : wrap64 K = K := by unfold wrap64; omega
  have k0 : ¬ K = 0 := by omega
  have k1 : ¬ K = -1 := by omega
  have eK2 : IntKind.i64.wrap K = K := IntWalk.i64_in _ (by omega)
  have eDV : IntKind.i64.wrap DV = DV := IntWalk.i64_in _ (by omega)
  have eDV2 : wrap64 DV = DV := by unfold wrap64; omega
  have hd0 := hd.1
  obtain ⟨SN, hSN⟩ : ∃ S, sgn net = S := ⟨_, rfl⟩
  simp only [hSN] at sN hwv
  have SVH := hide sV
  have SNH := hide sN
  have SOH := hide sO
  have COH := hide cO
  have WNH := hide wN
  clear sV sN sO cO wN hdv hwy hw hgb hq hr0 hSO hCL hsm hDV hSW hG hWY hWY2
  by_cases z : v = 0
  · subst z
    rw [if_pos rfl] at hwv
    subst hwv
    have s0 : SV = 0 := by rw [← hSV]; rfl
    subst s0
    have d0 : DV = 0 := by rw [hdm]; split <;> simp
    subst d0
    clear hdm
    simp only [Int.sub_zero, Int.zero_add] at SOH COH HS e6 e5
    cases sm
    · by_cases hd1 : 0 < d
      · go_enter Tryz.func115, Tryz.ntmps115
        go_wp2_with (first | (go_at_call 73; (with_reducible refine ((unhide WNH) _).mono ?_); rintro e w' ⟨rfl, rfl⟩) | (go_at_call 140; (with_reducible refine ((unhide SVH) _).mono ?_); rintro e w' ⟨rfl, rfl⟩) | (go_at_call 140; (with_reducible refine ((unhide SNH) _).mono ?_); rintro e w' ⟨rfl, rfl⟩) | (go_at_call 140; (with_reducible refine ((unhide SOH) _).mono ?_); rintro e w' ⟨rfl, rfl⟩) | (go_at_call 120; (with_reducible refine ((unhide COH) _).mono ?_); rintro e w' ⟨rfl, rfl⟩))
        go_quiet ((go_at_call 140; first | exact quiet_left ((unhide SVH) _) | exact quiet_add_left ((unhide SVH) _)))
        go_wp2_with (first | (go_at_call 73; (with_reducible refine ((unhide WNH) _).mono ?_); rintro e w' ⟨rfl, rfl⟩) | (go_at_call 140; (with_reducible refine ((unhide SVH) _).mono ?_); rintro e w' ⟨rfl, rfl⟩) | (go_at_call 140; (with_reducible refine ((unhide SNH) _).mono ?_); rintro e w' ⟨rfl, rfl⟩) | (go_at_call 140; (with_reducible refine ((unhide SOH) _).mono ?_); rintro e w' ⟨rfl, rfl⟩) | (go_at_call 120; (with_reducible refine ((unhide COH) _).mono ?_); rintro e w' ⟨rfl, rfl⟩))
        go_quiet ((go_at_call 140; first | exact quiet_left ((unhide SNH) _) | exact quiet_add_left ((unhide SNH) _)))
        go_wp2_with (first | (go_at_call 73; (with_reducible refine ((unhide WNH) _).mono ?_); rintro e w' ⟨rfl, rfl⟩) | (go_at_call 140; (with_reducible refine ((unhide SVH) _).mono ?_); rintro e w' ⟨rfl, rfl⟩) | (go_at_call 140; (with_reducible refine ((unhide SNH) _).mono ?_); rintro e w' ⟨rfl, rfl⟩) | (go_at_call 140; (with_reducible refine ((unhide SOH) _).mono ?_); rintro e w' ⟨rfl, rfl⟩) | (go_at_call 120; (with_reducible refine ((unhide COH) _).mono ?_); rintro e w' ⟨rfl, rfl⟩))
        go_ret
        exact ⟨by rw [HS.out]; simp; try rfl, by first | exact hb0 | exact below_drewN hb0 _ | exact below_drewN (below_drewN hb0 _) _⟩
      · go_enter Tryz.func115, Tryz.ntmps115
        go_wp2_with (first | (go_at_call 73; (with_reducible refine ((unhide WNH) _).mono ?_); rintro e w' ⟨rfl, rfl⟩) | (go_at_call 140; (with_reducible refine ((unhide SVH) _).mono ?_); rintro e w' ⟨rfl, rfl⟩) | (go_at_call 140; (with_reducible refine ((unhide SNH) _).mono ?_); rintro e w' ⟨rfl, rfl⟩) | (go_at_call 140; (with_reducible refine ((unhide SOH) _).mono ?_); rintro e w' ⟨rfl, rfl⟩) | (go_at_call 120; (with_reducible refine ((unhide COH) _).mono ?_); rintro e w' ⟨rfl, rfl⟩))
        go_quiet ((go_at_call 140; first | exact quiet_left ((unhide SVH) _) | exact quiet_add_left ((unhide SVH) _)))
        go_wp2_with (first | (go_at_call 73; (with_reducible refine ((unhide WNH) _).mono ?_); rintro e w' ⟨rfl, rfl⟩) | (go_at_call 140; (with_reducible refine ((unhide SVH) _).mono ?_); rintro e w' ⟨rfl, rfl⟩) | (go_at_call 140; (with_reducible refine ((unhide SNH) _).mono ?_); rintro e w' ⟨rfl, rfl⟩) | (go_at_call 140; (with_reducible refine ((unhide SOH) _).mono ?_); rintro e w' ⟨rfl, rfl⟩) | (go_at_call 120; (with_reducible refine ((unhide COH) _).mono ?_); rintro e w' ⟨rfl, rfl⟩))
        go_quiet ((go_at_call 140; first | exact quiet_left ((unhide SNH) _) | exact quiet_add_left ((unhide SNH) _)))
        go_wp2_with (first | (go_at_call 73; (with_reducible refine ((unhide WNH) _).mono ?_); rintro e w' ⟨rfl, rfl⟩) | (go_at_call 140; (with_reducible refine ((unhide SVH) _).mono ?_); rintro e w' ⟨rfl, rfl⟩) | (go_at_call 140; (with_reducible refine ((unhide SNH) _).mono ?_); rintro e w' ⟨rfl, rfl⟩) | (go_at_call 140; (with_reducible refine ((unhide SOH) _).mono ?_); rintro e w' ⟨rfl, rfl⟩) | (go_at_call 120; (with_reducible refine ((unhide COH) _).mono ?_); rintro e w' ⟨rfl, rfl⟩))
        go_ret
        exact ⟨by rw [HS.out]; simp; try rfl, by first | exact hb0 | exact below_drewN hb0 _ | exact below_drewN (below_drewN hb0 _) _⟩
    · go_enter Tryz.func115, Tryz.ntmps115
      go_wp2_with (first | (go_at_call 73; (with_reducible refine ((unhide WNH) _).mono ?_); rintro e w' ⟨rfl, rfl⟩) | (go_at_call 140; (with_reducible refine ((unhide SVH) _).mono ?_); rintro e w' ⟨rfl, rfl⟩) | (go_at_call 140; (with_reducible refine ((unhide SNH) _).mono ?_); rintro e w' ⟨rfl, rfl⟩) | (go_at_call 140; (with_reducible refine ((unhide SOH) _).mono ?_); rintro e w' ⟨rfl, rfl⟩) | (go_at_call 120; (with_reducible refine ((unhide COH) _).mono ?_); rintro e w' ⟨rfl, rfl⟩))
      go_ret
      exact ⟨by rw [HS.out]; rfl, by first | exact hb0 | exact below_drewN hb0 _ | exact below_drewN (below_drewN hb0 _) _⟩
  · rw [if_neg z] at hwv
    subst hwv
    cases sm
    · by_cases hd1 : 0 < d
      · rw [if_pos hd1] at hdm
        have hdm' := hdm.symm
        clear hdm
        go_enter Tryz.func115, Tryz.ntmps115
        go_wp2_with (first | (go_at_call 73; (with_reducible refine ((unhide WNH) _).mono ?_); rintro e w' ⟨rfl, rfl⟩) | (go_at_call 140; (with_reducible refine ((unhide SVH) _).mono ?_); rintro e w' ⟨rfl, rfl⟩) | (go_at_call 140; (with_reducible refine ((unhide SNH) _).mono ?_); rintro e w' ⟨rfl, rfl⟩) | (go_at_call 140; (with_reducible refine ((unhide SOH) _).mono ?_); rintro e w' ⟨rfl, rfl⟩) | (go_at_call 120; (with_reducible refine ((unhide COH) _).mono ?_); rintro e w' ⟨rfl, rfl⟩))
        go_quiet ((go_at_call 140; first | exact quiet_left ((unhide SVH) _) | exact quiet_add_left ((unhide SVH) _)))
        go_wp2_with (first | (go_at_call 73; (with_reducible refine ((unhide WNH) _).mono ?_); rintro e w' ⟨rfl, rfl⟩) | (go_at_call 140; (with_reducible refine ((unhide SVH) _).mono ?_); rintro e w' ⟨rfl, rfl⟩) | (go_at_call 140; (with_reducible refine ((unhide SNH) _).mono ?_); rintro e w' ⟨rfl, rfl⟩) | (go_at_call 140; (with_reducible refine ((unhide SOH) _).mono ?_); rintro e w' ⟨rfl, rfl⟩) | (go_at_call 120; (with_reducible refine ((unhide COH) _).mono ?_); rintro e w' ⟨rfl, rfl⟩))
        go_ret
        exact ⟨by rw [HS.out]; simp; try rfl, by first | exact hb0 | exact below_drewN hb0 _ | exact below_drewN (below_drewN hb0 _) _⟩
      · rw [if_neg hd1] at hdm
        subst hdm
        simp only [Int.sub_zero] at SOH COH HS e6 e5
        go_enter Tryz.func115, Tryz.ntmps115
        go_wp2_with (first | (go_at_call 73; (with_reducible refine ((unhide WNH) _).mono ?_); rintro e w' ⟨rfl, rfl⟩) | (go_at_call 140; (with_reducible refine ((unhide SVH) _).mono ?_); rintro e w' ⟨rfl, rfl⟩) | (go_at_call 140; (with_reducible refine ((unhide SNH) _).mono ?_); rintro e w' ⟨rfl, rfl⟩) | (go_at_call 140; (with_reducible refine ((unhide SOH) _).mono ?_); rintro e w' ⟨rfl, rfl⟩) | (go_at_call 120; (with_reducible refine ((unhide COH) _).mono ?_); rintro e w' ⟨rfl, rfl⟩))
        go_quiet ((go_at_call 140; first | exact quiet_left ((unhide SVH) _) | exact quiet_add_left ((unhide SVH) _)))
        go_wp2_with (first | (go_at_call 73; (with_reducible refine ((unhide WNH) _).mono ?_); rintro e w' ⟨rfl, rfl⟩) | (go_at_call 140; (with_reducible refine ((unhide SVH) _).mono ?_); rintro e w' ⟨rfl, rfl⟩) | (go_at_call 140; (with_reducible refine ((unhide SNH) _).mono ?_); rintro e w' ⟨rfl, rfl⟩) | (go_at_call 140; (with_reducible refine ((unhide SOH) _).mono ?_); rintro e w' ⟨rfl, rfl⟩) | (go_at_call 120; (with_reducible refine ((unhide COH) _).mono ?_); rintro e w' ⟨rfl, rfl⟩))
        go_ret
        exact ⟨by rw [HS.out]; simp; try rfl, by first | exact hb0 | exact below_drewN hb0 _ | exact below_drewN (below_drewN hb0 _) _⟩
    · by_cases o : SO = -SW
      · by_cases hd1 : 0 < d
        · rw [if_pos hd1] at hdm
          have hdm' := hdm.symm
          clear hdm
          go_enter Tryz.func115, Tryz.ntmps115
          go_wp2_with (first | (go_at_call 73; (with_reducible refine ((unhide WNH) _).mono ?_); rintro e w' ⟨rfl, rfl⟩) | (go_at_call 140; (with_reducible refine ((unhide SVH) _).mono ?_); rintro e w' ⟨rfl, rfl⟩) | (go_at_call 140; (with_reducible refine ((unhide SNH) _).mono ?_); rintro e w' ⟨rfl, rfl⟩) | (go_at_call 140; (with_reducible refine ((unhide SOH) _).mono ?_); rintro e w' ⟨rfl, rfl⟩) | (go_at_call 120; (with_reducible refine ((unhide COH) _).mono ?_); rintro e w' ⟨rfl, rfl⟩))
          go_quiet ((go_at_call 140; first | exact quiet_left ((unhide SVH) _) | exact quiet_add_left ((unhide SVH) _)))
          go_wp2_with (first | (go_at_call 73; (with_reducible refine ((unhide WNH) _).mono ?_); rintro e w' ⟨rfl, rfl⟩) | (go_at_call 140; (with_reducible refine ((unhide SVH) _).mono ?_); rintro e w' ⟨rfl, rfl⟩) | (go_at_call 140; (with_reducible refine ((unhide SNH) _).mono ?_); rintro e w' ⟨rfl, rfl⟩) | (go_at_call 140; (with_reducible refine ((unhide SOH) _).mono ?_); rintro e w' ⟨rfl, rfl⟩) | (go_at_call 120; (with_reducible refine ((unhide COH) _).mono ?_); rintro e w' ⟨rfl, rfl⟩))
          go_ret
          exact ⟨by rw [HS.out, if_neg (by simp [z]), if_pos (by simp [o])]; rfl, by first | exact hb0 | exact below_drewN hb0 _ | exact below_drewN (below_drewN hb0 _) _⟩
        · rw [if_neg hd1] at hdm
          subst hdm
          simp only [Int.sub_zero] at SOH COH HS e6 e5
          go_enter Tryz.func115, Tryz.ntmps115
          go_wp2_with (first | (go_at_call 73; (with_reducible refine ((unhide WNH) _).mono ?_); rintro e w' ⟨rfl, rfl⟩) | (go_at_call 140; (with_reducible refine ((unhide SVH) _).mono ?_); rintro e w' ⟨rfl, rfl⟩) | (go_at_call 140; (with_reducible refine ((unhide SNH) _).mono ?_); rintro e w' ⟨rfl, rfl⟩) | (go_at_call 140; (with_reducible refine ((unhide SOH) _).mono ?_); rintro e w' ⟨rfl, rfl⟩) | (go_at_call 120; (with_reducible refine ((unhide COH) _).mono ?_); rintro e w' ⟨rfl, rfl⟩))
          go_quiet ((go_at_call 140; first | exact quiet_left ((unhide SVH) _) | exact quiet_add_left ((unhide SVH) _)))
          go_wp2_with (first | (go_at_call 73; (with_reducible refine ((unhide WNH) _).mono ?_); rintro e w' ⟨rfl, rfl⟩) | (go_at_call 140; (with_reducible refine ((unhide SVH) _).mono ?_); rintro e w' ⟨rfl, rfl⟩) | (go_at_call 140; (with_reducible refine ((unhide SNH) _).mono ?_); rintro e w' ⟨rfl, rfl⟩) | (go_at_call 140; (with_reducible refine ((unhide SOH) _).mono ?_); rintro e w' ⟨rfl, rfl⟩) | (go_at_call 120; (with_reducible refine ((unhide COH) _).mono ?_); rintro e w' ⟨rfl, rfl⟩))
          go_ret
          exact ⟨by rw [HS.out, if_neg (by simp [z]), if_pos (by simp [o])]; rfl, by first | exact hb0 | exact below_drewN hb0 _ | exact below_drewN (below_drewN hb0 _) _⟩
      · by_cases hd1 : 0 < d
        · rw [if_pos hd1] at hdm
          have hdm' := hdm.symm
          clear hdm
          go_enter Tryz.func115, Tryz.ntmps115
          go_wp2_with (first | (go_at_call 73; (with_reducible refine ((unhide WNH) _).mono ?_); rintro e w' ⟨rfl, rfl⟩) | (go_at_call 140; (with_reducible refine ((unhide SVH) _).mono ?_); rintro e w' ⟨rfl, rfl⟩) | (go_at_call 140; (with_reducible refine ((unhide SNH) _).mono ?_); rintro e w' ⟨rfl, rfl⟩) | (go_at_call 140; (with_reducible refine ((unhide SOH) _).mono ?_); rintro e w' ⟨rfl, rfl⟩) | (go_at_call 120; (with_reducible refine ((unhide COH) _).mono ?_); rintro e w' ⟨rfl, rfl⟩))
          go_quiet ((go_at_call 140; first | exact quiet_left ((unhide SVH) _) | exact quiet_add_left ((unhide SVH) _)))
          go_wp2_with (first | (go_at_call 73; (with_reducible refine ((unhide WNH) _).mono ?_); rintro e w' ⟨rfl, rfl⟩) | (go_at_call 140; (with_reducible refine ((unhide SVH) _).mono ?_); rintro e w' ⟨rfl, rfl⟩) | (go_at_call 140; (with_reducible refine ((unhide SNH) _).mono ?_); rintro e w' ⟨rfl, rfl⟩) | (go_at_call 140; (with_reducible refine ((unhide SOH) _).mono ?_); rintro e w' ⟨rfl, rfl⟩) | (go_at_call 120; (with_reducible refine ((unhide COH) _).mono ?_); rintro e w' ⟨rfl, rfl⟩))
          go_ret
          exact ⟨by rw [HS.out, if_neg (by simp [z]), if_neg (by simp [o])]; rfl, by first | exact hb0 | exact below_drewN hb0 _ | exact below_drewN (below_drewN hb0 _) _⟩
        · rw [if_neg hd1] at hdm
          subst hdm
          simp only [Int.sub_zero] at SOH COH HS e6 e5
          go_enter Tryz.func115, Tryz.ntmps115
          go_wp2_with (first | (go_at_call 73; (with_reducible refine ((unhide WNH) _).mono ?_); rintro e w' ⟨rfl, rfl⟩) | (go_at_call 140; (with_reducible refine ((unhide SVH) _).mono ?_); rintro e w' ⟨rfl, rfl⟩) | (go_at_call 140; (with_reducible refine ((unhide SNH) _).mono ?_); rintro e w' ⟨rfl, rfl⟩) | (go_at_call 140; (with_reducible refine ((unhide SOH) _).mono ?_); rintro e w' ⟨rfl, rfl⟩) | (go_at_call 120; (with_reducible refine ((unhide COH) _).mono ?_); rintro e w' ⟨rfl, rfl⟩))
          go_quiet ((go_at_call 140; first | exact quiet_left ((unhide SVH) _) | exact quiet_add_left ((unhide SVH) _)))
          go_wp2_with (first | (go_at_call 73; (with_reducible refine ((unhide WNH) _).mono ?_); rintro e w' ⟨rfl, rfl⟩) | (go_at_call 140; (with_reducible refine ((unhide SVH) _).mono ?_); rintro e w' ⟨rfl, rfl⟩) | (go_at_call 140; (with_reducible refine ((unhide SNH) _).mono ?_); rintro e w' ⟨rfl, rfl⟩) | (go_at_call 140; (with_reducible refine ((unhide SOH) _).mono ?_); rintro e w' ⟨rfl, rfl⟩) | (go_at_call 120; (with_reducible refine ((unhide COH) _).mono ?_); rintro e w' ⟨rfl, rfl⟩))
          go_ret
          exact ⟨by rw [HS.out, if_neg (by simp [z]), if_neg (by simp [o])]; rfl, by first | exact hb0 | exact below_drewN hb0 _ | exact below_drewN (below_drewN hb0 _) _⟩
end Go.Proofs.YtpfkiohknpeifaaGreat
