/- The link: what is wrong with it, its state after a tick; and the reference's. -/
import Derived.Test.YtpfkiohknpeifaaGreatPShaft2
namespace Go.Proofs.YtpfkiohknpeifaaGreat
open Go.RowKit
/-- The numbers of a link. -/
structure LkC where
  num : Int
  den : Int
  sup : Int
  fed : Int
  ohm : Int
  bon : Int
  boff : Int
  bohm : Int
def lkRng (K : LkC) : Prop := wiB K.num 0 1048576 = true ∧ wiB K.den 1 1048576 = true ∧ wiB K.sup 0 1048576 = true ∧ wiB K.fed 0 4194304 = true ∧ wiB K.ohm 1 1048576 = true ∧ wiB K.bon 1 1048576 = true ∧ wiB K.boff 1 1048576 = true ∧ wiB K.bohm 1 1048576 = true
/-- What is wrong with a link. -/
def lkCode (K : LkC) : Int :=
  if wiB K.num 0 1048576 = true ∧ wiB K.den 1 1048576 = true ∧ wiB K.sup 0 1048576 = true ∧ wiB K.fed 0 4194304 = true ∧ wiB K.ohm 1 1048576 = true ∧ wiB K.bon 1 1048576 = true ∧ wiB K.boff 1 1048576 = true ∧ wiB K.bohm 1 1048576 = true then
    if K.bon ≤ K.sup ∨ K.bon ≤ K.boff then 26 else if K.ohm * K.den < 1000 * K.num then 16 else 0
  else 3
structure LkOk (K : LkC) : Prop where
  num : 0 ≤ K.num ∧ K.num ≤ 1048576
  den : 1 ≤ K.den ∧ K.den ≤ 1048576
  sup : 0 ≤ K.sup ∧ K.sup ≤ 1048576
  fed : 0 ≤ K.fed ∧ K.fed ≤ 4194304
  ohm : 1 ≤ K.ohm ∧ K.ohm ≤ 1048576
  bon : 1 ≤ K.bon ∧ K.bon ≤ 1048576
  boff : 1 ≤ K.boff ∧ K.boff ≤ 1048576
  bohm : 1 ≤ K.bohm ∧ K.bohm ≤ 1048576
  ord : K.sup < K.bon ∧ K.boff < K.bon
  lim : 1000 * K.num ≤ K.ohm * K.den
theorem lk_ok {K : LkC} (h : lkCode K = 0) : LkOk K := by
  unfold lkCode at h
  split at h
  · rename_i q
    split at h
    · omega
    split at h
    · omega
    exact ⟨wiB_iff.1 q.1, wiB_iff.1 q.2.1, wiB_iff.1 q.2.2.1, wiB_iff.1 q.2.2.2.1, wiB_iff.1 q.2.2.2.2.1, wiB_iff.1 q.2.2.2.2.2.1, wiB_iff.1 q.2.2.2.2.2.2.1, wiB_iff.1 q.2.2.2.2.2.2.2, by omega, by omega⟩
  · omega
theorem prod_bd {a b A B : Int} (h1 : 0 ≤ a) (h2 : a ≤ A) (h3 : 0 ≤ b) (h4 : b ≤ B) : 0 ≤ a * b ∧ a * b ≤ A * B := ⟨Int.mul_nonneg h1 h3, Int.mul_le_mul h2 h4 h3 (by omega)⟩
/-- The brake's state after a tick, at the voltage v. -/
def lkB (K : LkC) (v : Int) (b : Bool) : Bool := if K.bon ≤ v then true else if K.boff ≤ v then b else false
/-- What the source feeds. -/
def lkS (K : LkC) (v : Int) (de : Bool) : Int := if de = true then 0 else clipI (((K.sup - v) * 1000).tdiv K.ohm) 0 K.fed
/-- What the brake resistor takes. -/
def lkR (K : LkC) (v : Int) (on br : Bool) : Int := if on = true ∧ br = false then (v * 1000).tdiv K.bohm else 0
/-- The voltage after a tick, at a voltage from 0 to the greatest. -/
def lkN (K : LkC) (v : Int) (b : Bool) (dr : Int) (de br : Bool) : Int := lkS K v de - clipI dr (-4194304) 4194304 - lkR K v (lkB K v b) br
def lkW (K : LkC) (v : Int) (b : Bool) (dr : Int) (de br : Bool) : Int := clipI (v + (lkN K v b dr de br * K.num).tdiv K.den) 0 1048576
/-- The voltage and the brake after a tick. -/
def lkV (K : LkC) (v : Int) (b : Bool) (dr : Int) (de br : Bool) : Int := lkW K (clipI v 0 1048576) b dr de br
def lkBr (K : LkC) (v : Int) (b : Bool) : Bool := lkB K (clipI v 0 1048576) b
set_option maxRecDepth 100000 in
set_option maxHeartbeats 1600000 in
theorem lckM (K : LkC) (w : World) : Calls Tryz.prog 30 #[.agg #[.int .i64 K.num, .int .i64 K.den, .int .i64 K.sup, .int .i64 K.fed, .int .i64 K.ohm, .int .i64 K.bon, .int .i64 K.boff, .int .i64 K.bohm]] w fun e w' => e = .returned (errV (lkCode K)) ∧ Below w.heap.size w w' := by
  have hv0 : lkCode K = if wiB K.num 0 1048576 = true ∧ wiB K.den 1 1048576 = true ∧ wiB K.sup 0 1048576 = true ∧ wiB K.fed 0 4194304 = true ∧ wiB K.ohm 1 1048576 = true ∧ wiB K.bon 1 1048576 = true ∧ wiB K.boff 1 1048576 = true ∧ wiB K.bohm 1 1048576 = true then (if K.bon ≤ K.sup ∨ K.bon ≤ K.boff then 26 else if K.ohm * K.den < 1000 * K.num then 16 else 0) else 3 := rfl
  have HV := Lib.hid hv0
  clear hv0
  have hb0 := (Below.refl w.heap.size w).alloc (Nat.le_refl _) (.cells #[.int .i64 K.num, .int .i64 K.den, .int .i64 K.sup, .int .i64 K.fed, .int .i64 K.ohm, .int .i64 K.bon, .int .i64 K.boff, .int .i64 K.bohm] 28)
  obtain ⟨y0, y1, y2, y3, y4, y5, y6, y7⟩ := (Blk.new w 28 #[.int .i64 K.num, .int .i64 K.den, .int .i64 K.sup, .int .i64 K.fed, .int .i64 K.ohm, .int .i64 K.bon, .int .i64 K.boff, .int .i64 K.bohm]).c8
  go_enter Tryz.func30, Tryz.ntmps30
  rcases Bool.eq_false_or_eq_true (wiB K.num 0 1048576) with q0 | q0
  case inr =>
    go_wp2_with (first | (go_at_call 79; (with_reducible refine (wiLiM _ _ _ _).mono ?_); rintro e w' ⟨rfl, rfl⟩))
    go_ret
    exact ⟨by rw [HV.out, if_neg (by rw [q0]; simp)]; rfl, hb0⟩
  rcases Bool.eq_false_or_eq_true (wiB K.den 1 1048576) with q1 | q1
  case inr =>
    go_wp2_with (first | (go_at_call 79; (with_reducible refine (wiLiM _ _ _ _).mono ?_); rintro e w' ⟨rfl, rfl⟩))
    go_ret
    exact ⟨by rw [HV.out, if_neg (by rw [q1]; simp)]; rfl, hb0⟩
  rcases Bool.eq_false_or_eq_true (wiB K.sup 0 1048576) with q2 | q2
  case inr =>
    go_wp2_with (first | (go_at_call 79; (with_reducible refine (wiLiM _ _ _ _).mono ?_); rintro e w' ⟨rfl, rfl⟩))
    go_ret
    exact ⟨by rw [HV.out, if_neg (by rw [q2]; simp)]; rfl, hb0⟩
  rcases Bool.eq_false_or_eq_true (wiB K.fed 0 4194304) with q3 | q3
  case inr =>
    go_wp2_with (first | (go_at_call 79; (with_reducible refine (wiLiM _ _ _ _).mono ?_); rintro e w' ⟨rfl, rfl⟩))
    go_ret
    exact ⟨by rw [HV.out, if_neg (by rw [q3]; simp)]; rfl, hb0⟩
  rcases Bool.eq_false_or_eq_true (wiB K.ohm 1 1048576) with q4 | q4
  case inr =>
    go_wp2_with (first | (go_at_call 79; (with_reducible refine (wiLiM _ _ _ _).mono ?_); rintro e w' ⟨rfl, rfl⟩))
    go_ret
    exact ⟨by rw [HV.out, if_neg (by rw [q4]; simp)]; rfl, hb0⟩
  rcases Bool.eq_false_or_eq_true (wiB K.bon 1 1048576) with q5 | q5
  case inr =>
    go_wp2_with (first | (go_at_call 79; (with_reducible refine (wiLiM _ _ _ _).mono ?_); rintro e w' ⟨rfl, rfl⟩))
    go_ret
    exact ⟨by rw [HV.out, if_neg (by rw [q5]; simp)]; rfl, hb0⟩
  rcases Bool.eq_false_or_eq_true (wiB K.boff 1 1048576) with q6 | q6
  case inr =>
    go_wp2_with (first | (go_at_call 79; (with_reducible refine (wiLiM _ _ _ _).mono ?_); rintro e w' ⟨rfl, rfl⟩))
    go_ret
    exact ⟨by rw [HV.out, if_neg (by rw [q6]; simp)]; rfl, hb0⟩
  rcases Bool.eq_false_or_eq_true (wiB K.bohm 1 1048576) with q7 | q7
  case inr =>
    go_wp2_with (first | (go_at_call 79; (with_reducible refine (wiLiM _ _ _ _).mono ?_); rintro e w' ⟨rfl, rfl⟩))
    go_ret
    exact ⟨by rw [HV.out, if_neg (by rw [q7]; simp)]; rfl, hb0⟩
  have hn := wiB_iff.1 q0
  have hd := wiB_iff.1 q1
  have ho := wiB_iff.1 q4
  have pb := prod_bd (a := K.ohm) (b := K.den) (A := 1048576) (B := 1048576) (by omega) ho.2 (by omega) hd.2
  have e1 : wrap64 (1000 * K.num) = 1000 * K.num := by unfold wrap64; omega
  have e2 : wrap64 (K.ohm * K.den) = K.ohm * K.den := by unfold wrap64; omega
  by_cases h1 : K.bon ≤ K.sup
  · go_wp2_with (first | (go_at_call 79; (with_reducible refine (wiLiM _ _ _ _).mono ?_); rintro e w' ⟨rfl, rfl⟩))
    go_ret
    exact ⟨by rw [HV.out, if_pos ⟨q0, q1, q2, q3, q4, q5, q6, q7⟩, if_pos (Or.inl h1)]; rfl, hb0⟩
  by_cases h2 : K.bon ≤ K.boff
  · go_wp2_with (first | (go_at_call 79; (with_reducible refine (wiLiM _ _ _ _).mono ?_); rintro e w' ⟨rfl, rfl⟩))
    go_ret
    exact ⟨by rw [HV.out, if_pos ⟨q0, q1, q2, q3, q4, q5, q6, q7⟩, if_pos (Or.inr h2)]; rfl, hb0⟩
  by_cases h3 : K.ohm * K.den < 1000 * K.num
  · go_wp2_with (first | (go_at_call 79; (with_reducible refine (wiLiM _ _ _ _).mono ?_); rintro e w' ⟨rfl, rfl⟩))
    go_ret
    exact ⟨by rw [HV.out, if_pos ⟨q0, q1, q2, q3, q4, q5, q6, q7⟩, if_neg (by omega), if_pos h3]; rfl, hb0⟩
  go_wp2_with (first | (go_at_call 79; (with_reducible refine (wiLiM _ _ _ _).mono ?_); rintro e w' ⟨rfl, rfl⟩))
  go_ret
  exact ⟨by rw [HV.out, if_pos ⟨q0, q1, q2, q3, q4, q5, q6, q7⟩, if_neg (by omega), if_neg (by omega)]; rfl, hb0⟩
set_option maxRecDepth 100000 in
set_option maxHeartbeats 1600000 in
theorem lckR (K : LkC) (w : World) : Calls Tryz.prog 23 #[.agg #[.int .i64 K.num, .int .i64 K.den, .int .i64 K.sup, .int .i64 K.fed, .int .i64 K.ohm, .int .i64 K.bon, .int .i64 K.boff, .int .i64 K.bohm]] w fun e w' => e = .returned (.int .i64 (lkCode K)) ∧ Below w.heap.size w w' := by
  have hv0 : lkCode K = if wiB K.num 0 1048576 = true ∧ wiB K.den 1 1048576 = true ∧ wiB K.sup 0 1048576 = true ∧ wiB K.fed 0 4194304 = true ∧ wiB K.ohm 1 1048576 = true ∧ wiB K.bon 1 1048576 = true ∧ wiB K.boff 1 1048576 = true ∧ wiB K.bohm 1 1048576 = true then (if K.bon ≤ K.sup ∨ K.bon ≤ K.boff then 26 else if K.ohm * K.den < 1000 * K.num then 16 else 0) else 3 := rfl
  have HV := Lib.hid hv0
  clear hv0
  have hb0 := (Below.refl w.heap.size w).alloc (Nat.le_refl _) (.cells #[.int .i64 K.num, .int .i64 K.den, .int .i64 K.sup, .int .i64 K.fed, .int .i64 K.ohm, .int .i64 K.bon, .int .i64 K.boff, .int .i64 K.bohm] 28)
  obtain ⟨y0, y1, y2, y3, y4, y5, y6, y7⟩ := (Blk.new w 28 #[.int .i64 K.num, .int .i64 K.den, .int .i64 K.sup, .int .i64 K.fed, .int .i64 K.ohm, .int .i64 K.bon, .int .i64 K.boff, .int .i64 K.bohm]).c8
  go_enter Tryz.func23, Tryz.ntmps23
  rcases Bool.eq_false_or_eq_true (wiB K.num 0 1048576) with q0 | q0
  case inr =>
    go_wp2_with (first | (go_at_call 72; (with_reducible refine (wiLiR _ _ _ _).mono ?_); rintro e w' ⟨rfl, rfl⟩))
    go_ret
    exact ⟨by rw [HV.out, if_neg (by rw [q0]; simp)]; rfl, hb0⟩
  rcases Bool.eq_false_or_eq_true (wiB K.den 1 1048576) with q1 | q1
  case inr =>
    go_wp2_with (first | (go_at_call 72; (with_reducible refine (wiLiR _ _ _ _).mono ?_); rintro e w' ⟨rfl, rfl⟩))
    go_ret
    exact ⟨by rw [HV.out, if_neg (by rw [q1]; simp)]; rfl, hb0⟩
  rcases Bool.eq_false_or_eq_true (wiB K.sup 0 1048576) with q2 | q2
  case inr =>
    go_wp2_with (first | (go_at_call 72; (with_reducible refine (wiLiR _ _ _ _).mono ?_); rintro e w' ⟨rfl, rfl⟩))
    go_ret
    exact ⟨by rw [HV.out, if_neg (by rw [q2]; simp)]; rfl, hb0⟩
  rcases Bool.eq_false_or_eq_true (wiB K.fed 0 4194304) with q3 | q3
  case inr =>
    go_wp2_with (first | (go_at_call 72; (with_reducible refine (wiLiR _ _ _ _).mono ?_); rintro e w' ⟨rfl, rfl⟩))
    go_ret
    exact ⟨by rw [HV.out, if_neg (by rw [q3]; simp)]; rfl, hb0⟩
  rcases Bool.eq_false_or_eq_true (wiB K.ohm 1 1048576) with q4 | q4
  case inr =>
    go_wp2_with (first | (go_at_call 72; (with_reducible refine (wiLiR _ _ _ _).mono ?_); rintro e w' ⟨rfl, rfl⟩))
    go_ret
    exact ⟨by rw [HV.out, if_neg (by rw [q4]; simp)]; rfl, hb0⟩
  rcases Bool.eq_false_or_eq_true (wiB K.bon 1 1048576) with q5 | q5
  case inr =>
    go_wp2_with (first | (go_at_call 72; (with_reducible refine (wiLiR _ _ _ _).mono ?_); rintro e w' ⟨rfl, rfl⟩))
    go_ret
    exact ⟨by rw [HV.out, if_neg (by rw [q5]; simp)]; rfl, hb0⟩
  rcases Bool.eq_false_or_eq_true (wiB K.boff 1 1048576) with q6 | q6
  case inr =>
    go_wp2_with (first | (go_at_call 72; (with_reducible refine (wiLiR _ _ _ _).mono ?_); rintro e w' ⟨rfl, rfl⟩))
    go_ret
    exact ⟨by rw [HV.out, if_neg (by rw [q6]; simp)]; rfl, hb0⟩
  rcases Bool.eq_false_or_eq_true (wiB K.bohm 1 1048576) with q7 | q7
  case inr =>
    go_wp2_with (first | (go_at_call 72; (with_reducible refine (wiLiR _ _ _ _).mono ?_); rintro e w' ⟨rfl, rfl⟩))
    go_ret
    exact ⟨by rw [HV.out, if_neg (by rw [q7]; simp)]; rfl, hb0⟩
  have hn := wiB_iff.1 q0
  have hd := wiB_iff.1 q1
  have ho := wiB_iff.1 q4
  have pb := prod_bd (a := K.ohm) (b := K.den) (A := 1048576) (B := 1048576) (by omega) ho.2 (by omega) hd.2
  have e1 : wrap64 (1000 * K.num) = 1000 * K.num := by unfold wrap64; omega
  have e2 : wrap64 (K.ohm * K.den) = K.ohm * K.den := by unfold wrap64; omega
  by_cases h1 : K.bon ≤ K.sup
  · go_wp2_with (first | (go_at_call 72; (with_reducible refine (wiLiR _ _ _ _).mono ?_); rintro e w' ⟨rfl, rfl⟩))
    go_ret
    exact ⟨by rw [HV.out, if_pos ⟨q0, q1, q2, q3, q4, q5, q6, q7⟩, if_pos (Or.inl h1)]; rfl, hb0⟩
  by_cases h2 : K.bon ≤ K.boff
  · go_wp2_with (first | (go_at_call 72; (with_reducible refine (wiLiR _ _ _ _).mono ?_); rintro e w' ⟨rfl, rfl⟩))
    go_ret
    exact ⟨by rw [HV.out, if_pos ⟨q0, q1, q2, q3, q4, q5, q6, q7⟩, if_pos (Or.inr h2)]; rfl, hb0⟩
  by_cases h3 : K.ohm * K.den < 1000 * K.num
  · go_wp2_with (first | (go_at_call 72; (with_reducible refine (wiLiR _ _ _ _).mono ?_); rintro e w' ⟨rfl, rfl⟩))
    go_ret
    exact ⟨by rw [HV.out, if_pos ⟨q0, q1, q2, q3, q4, q5, q6, q7⟩, if_neg (by omega), if_pos h3]; rfl, hb0⟩
  go_wp2_with (first | (go_at_call 72; (with_reducible refine (wiLiR _ _ _ _).mono ?_); rintro e w' ⟨rfl, rfl⟩))
  go_ret
  exact ⟨by rw [HV.out, if_pos ⟨q0, q1, q2, q3, q4, q5, q6, q7⟩, if_neg (by omega), if_neg (by omega)]; rfl, hb0⟩
theorem lkS_bd {K : LkC} (ok : LkOk K) (v : Int) (de : Bool) : 0 ≤ lkS K v de ∧ lkS K v de ≤ 4194304 := by
  have h1 := clip_bd (((K.sup - v) * 1000).tdiv K.ohm) 0 K.fed ok.fed.1
  have h2 := ok.fed
  unfold lkS
  split <;> omega
theorem lkR_bd {K : LkC} (ok : LkOk K) {v : Int} (hv : 0 ≤ v ∧ v ≤ 1048576) (on br : Bool) : 0 ≤ lkR K v on br ∧ lkR K v on br ≤ 1048576000 := by
  have h1 := ok.bohm
  unfold lkR
  split
  · have h2 := tdiv_abs (v * 1000) K.bohm h1.1 (B := 1048576000) (by omega) (by omega)
    have h3 := Int.tdiv_nonneg (a := v * 1000) (b := K.bohm) (by omega) (by omega)
    omega
  · omega
/-- A link's state read. -/
theorem load_ls {w : World} {g : Nat} {t : TypeId} {a b : Value} (h : Blk w g t #[a, b]) : (loadVar 43 ⟨g, 0, none⟩).run Tryz.prog w = .ok (.agg #[a, b]) w := by
  obtain ⟨k0, k1⟩ := h.c2
  simp [go_sem, k0, k1]
set_option maxRecDepth 100000 in
theorem lstartM (K : LkC) (w : World) (hc : lkCode K = 0) : Calls Tryz.prog 27 #[.agg #[.int .i64 K.num, .int .i64 K.den, .int .i64 K.sup, .int .i64 K.fed, .int .i64 K.ohm, .int .i64 K.bon, .int .i64 K.boff, .int .i64 K.bohm]] w fun e w' => e = .returned (.tuple #[.agg #[.int .i64 K.sup, .bool false], .nilIface]) ∧ Below w.heap.size w w' := by
  have hb0 := ((Below.refl w.heap.size w).alloc (Nat.le_refl _) (.cells #[.int .i64 K.num, .int .i64 K.den, .int .i64 K.sup, .int .i64 K.fed, .int .i64 K.ohm, .int .i64 K.bon, .int .i64 K.boff, .int .i64 K.bohm] 28)).alloc (by simp) (.cells #[.int .i64 0, .bool false] 43)
  have g0 := (Blk.new w 28 #[.int .i64 K.num, .int .i64 K.den, .int .i64 K.sup, .int .i64 K.fed, .int .i64 K.ohm, .int .i64 K.bon, .int .i64 K.boff, .int .i64 K.bohm]).alloc (.cells #[.int .i64 0, .bool false] 43)
  have gz := Blk.new' (w := w.alloc (.cells #[.int .i64 K.num, .int .i64 K.den, .int .i64 K.sup, .int .i64 K.fed, .int .i64 K.ohm, .int .i64 K.bon, .int .i64 K.boff, .int .i64 K.bohm] 28)) (t := 43) (cs := #[.int .i64 0, .bool false]) (g := w.heap.size + 1) (by simp)
  have hck := fun W => lckM K W
  simp only [hc, errV_zero] at hck
  have HCK := hide hck
  clear hck hc
  go_enter Tryz.func27, Tryz.ntmps27
  go_wp2_with fail
  with_reducible refine ((unhide HCK) _).mono ?_
  rintro e w1 ⟨rfl, hb1⟩
  have g1 := g0.below hb1 g0.lt
  have gz1 := gz.below hb1 gz.lt
  have l1 := g1.lt
  have lz1 := gz1.lt
  have HB1 := hb0.trans (hb1.mono hb0.size)
  obtain ⟨y0, y1, y2, y3, y4, y5, y6, y7⟩ := g1.c8
  obtain ⟨z0, z1⟩ := gz1.c2
  have f0 := gz1.frozen 0
  have f1 := gz1.frozen 1
  go_wp2
  refine bodyPost_ret (ret_cell_tmp rfl rfl (load_ls ((gz1.set_ 0 _).set_ 1 _))) rfl ⟨rfl, ?_⟩
  exact (HB1.setCell (by simp; try omega) _).setCell (by simp; try omega) _
set_option maxRecDepth 100000 in
set_option maxHeartbeats 6400000 in
theorem lstepM (K : LkC) (v : Int) (b : Bool) (dr : Int) (de br : Bool) (w : World) (hc : lkCode K = 0) :
    Calls Tryz.prog 45 #[.agg #[.int .i64 K.num, .int .i64 K.den, .int .i64 K.sup, .int .i64 K.fed, .int .i64 K.ohm, .int .i64 K.bon, .int .i64 K.boff, .int .i64 K.bohm], .agg #[.int .i64 v, .bool b], .agg #[.int .i64 dr, .bool de, .bool br]] w fun e w' => e = .returned (.tuple #[.agg #[.int .i64 (lkV K v b dr de br), .bool (lkBr K v b)], .nilIface]) ∧ Below w.heap.size w w' := by
  have ok := lk_ok hc
  have hb0 := ((((Below.refl w.heap.size w).alloc (Nat.le_refl _) (.cells #[.int .i64 K.num, .int .i64 K.den, .int .i64 K.sup, .int .i64 K.fed, .int .i64 K.ohm, .int .i64 K.bon, .int .i64 K.boff, .int .i64 K.bohm] 28)).alloc (by simp) (.cells #[.int .i64 v, .bool b] 43)).alloc (by simp <;> omega) (.cells #[.int .i64 dr, .bool de, .bool br] 114)).alloc (by simp <;> omega) (.cells #[.int .i64 0, .bool false] 43)
  have g0 := ((Blk.new w 28 #[.int .i64 K.num, .int .i64 K.den, .int .i64 K.sup, .int .i64 K.fed, .int .i64 K.ohm, .int .i64 K.bon, .int .i64 K.boff, .int .i64 K.bohm]).alloc (.cells #[.int .i64 v, .bool b] 43)).alloc (.cells #[.int .i64 dr, .bool de, .bool br] 114) |>.alloc (.cells #[.int .i64 0, .bool false] 43)
  have g1 := ((Blk.new' (w := w.alloc (.cells #[.int .i64 K.num, .int .i64 K.den, .int .i64 K.sup, .int .i64 K.fed, .int .i64 K.ohm, .int .i64 K.bon, .int .i64 K.boff, .int .i64 K.bohm] 28)) (t := 43) (cs := #[.int .i64 v, .bool b]) (g := w.heap.size + 1) (by simp)).alloc (.cells #[.int .i64 dr, .bool de, .bool br] 114)).alloc (.cells #[.int .i64 0, .bool false] 43)
  have gx := (Blk.new' (w := (w.alloc (.cells #[.int .i64 K.num, .int .i64 K.den, .int .i64 K.sup, .int .i64 K.fed, .int .i64 K.ohm, .int .i64 K.bon, .int .i64 K.boff, .int .i64 K.bohm] 28)).alloc (.cells #[.int .i64 v, .bool b] 43)) (t := 114) (cs := #[.int .i64 dr, .bool de, .bool br]) (g := w.heap.size + 1 + 1) (by simp)).alloc (.cells #[.int .i64 0, .bool false] 43)
  have gz := Blk.new' (w := ((w.alloc (.cells #[.int .i64 K.num, .int .i64 K.den, .int .i64 K.sup, .int .i64 K.fed, .int .i64 K.ohm, .int .i64 K.bon, .int .i64 K.boff, .int .i64 K.bohm] 28)).alloc (.cells #[.int .i64 v, .bool b] 43)).alloc (.cells #[.int .i64 dr, .bool de, .bool br] 114)) (t := 43) (cs := #[.int .i64 0, .bool false]) (g := w.heap.size + 1 + 1 + 1) (by simp)
  have c1 := fun W => clipLiM v 0 1048576 (by omega) W
  have c2 := fun W => clipLiM dr (-4194304) 4194304 (by omega) W
  have hlv : lkV K v b dr de br = lkW K (clipI v 0 1048576) b dr de br := rfl
  have hlb : lkBr K v b = lkB K (clipI v 0 1048576) b := rfl
  have bv := clip_bd v 0 1048576 (by omega)
  have bd := clip_bd dr (-4194304) 4194304 (by omega)
  obtain ⟨V, hV⟩ : ∃ x, clipI v 0 1048576 = x := ⟨_, rfl⟩
  rw [hV] at bv hlv hlb
  simp only [hV] at c1
  rw [hlv, hlb]
  clear hlv hlb
  have c3 := fun W => clipLiM (((K.sup - V) * 1000).tdiv K.ohm) 0 K.fed ok.fed.1 W
  have hS : lkS K V de = if de = true then 0 else clipI (((K.sup - V) * 1000).tdiv K.ohm) 0 K.fed := rfl
  have hR : lkR K V (lkB K V b) br = if lkB K V b = true ∧ br = false then (V * 1000).tdiv K.bohm else 0 := rfl
  have hB : lkB K V b = if K.bon ≤ V then true else if K.boff ≤ V then b else false := rfl
  have hN : lkN K V b dr de br = lkS K V de - clipI dr (-4194304) 4194304 - lkR K V (lkB K V b) br := rfl
  have hW : lkW K V b dr de br = clipI (V + (lkN K V b dr de br * K.num).tdiv K.den) 0 1048576 := rfl
  have bs := lkS_bd ok V de
  have br1 := lkR_bd ok bv (lkB K V b) br
  obtain ⟨D, hD⟩ : ∃ x, clipI dr (-4194304) 4194304 = x := ⟨_, rfl⟩
  rw [hD] at bd hN
  simp only [hD] at c2
  have k1 := ok.num
  have k2 := ok.den
  have k3 := ok.sup
  have k5 := ok.ohm
  have k8 := ok.bohm
  have k4 := ok.fed
  obtain ⟨N, hNN⟩ : ∃ x, lkN K V b dr de br = x := ⟨_, rfl⟩
  rw [hNN] at hN hW
  have bn : -1100000000 ≤ N ∧ N ≤ 1100000000 := by omega
  have m1 := mul_bd (a := N) (b := K.num) (A := 1100000000) (B := 1048576) bn (by omega)
  have q1 := tdiv_abs (N * K.num) K.den k2.1 (B := 1153433600000000) (by omega) (by omega)
  obtain ⟨M, hM⟩ : ∃ x, N * K.num = x := ⟨_, rfl⟩
  rw [hM] at m1 q1 hW
  have eM : IntKind.i64.wrap (N * K.num) = M := by rw [hM]; exact IntWalk.i64_in _ (by omega)
  have eM2 : wrap64 (N * K.num) = M := by rw [hM]; unfold wrap64; omega
  obtain ⟨Q, hQ⟩ : ∃ x, M.tdiv K.den = x := ⟨_, rfl⟩
  rw [hQ] at q1 hW
  have eQ : wrap64 (V + Q) = V + Q := by unfold wrap64; omega
  have eQ1 : wrap64 Q = Q := by unfold wrap64; omega
  have eQ2 : IntKind.i64.wrap Q = Q := IntWalk.i64_in _ (by omega)
  have c4 := fun W => clipLiM (V + Q) 0 1048576 (by omega) W
  obtain ⟨O, hO⟩ : ∃ x, clipI (V + Q) 0 1048576 = x := ⟨_, rfl⟩
  simp only [hO] at c4 hW
  have p1 := tdiv_abs ((K.sup - V) * 1000) K.ohm k5.1 (B := 1048576000) (by omega) (by omega)
  obtain ⟨U, hU⟩ : ∃ x, ((K.sup - V) * 1000).tdiv K.ohm = x := ⟨_, rfl⟩
  rw [hU] at hS p1
  simp only [hU] at c3
  have p2 := tdiv_abs (V * 1000) K.bohm k8.1 (B := 1048576000) (by omega) (by omega)
  obtain ⟨R, hRR⟩ : ∃ x, (V * 1000).tdiv K.bohm = x := ⟨_, rfl⟩
  rw [hRR] at hR p2
  obtain ⟨S, hSS⟩ : ∃ x, clipI U 0 K.fed = x := ⟨_, rfl⟩
  simp only [hSS] at c3 hS
  have bS := clip_bd U 0 K.fed k4.1
  rw [hSS] at bS
  have a1 : wrap64 (K.sup - V) = K.sup - V := by unfold wrap64; omega
  have a2 : IntKind.i64.wrap ((K.sup - V) * 1000) = (K.sup - V) * 1000 := IntWalk.i64_in _ (by omega)
  have a2' : wrap64 ((K.sup - V) * 1000) = (K.sup - V) * 1000 := by unfold wrap64; omega
  have a3 : IntKind.i64.wrap (V * 1000) = V * 1000 := IntWalk.i64_in _ (by omega)
  have a3' : wrap64 (V * 1000) = V * 1000 := by unfold wrap64; omega
  have a4 : IntKind.i64.wrap U = U := IntWalk.i64_in _ (by omega)
  have a4' : wrap64 U = U := by unfold wrap64; omega
  have a5 : IntKind.i64.wrap R = R := IntWalk.i64_in _ (by omega)
  have a5' : wrap64 R = R := by unfold wrap64; omega
  have n1 : ¬ K.ohm = 0 := by omega
  have n2 : ¬ K.ohm = -1 := by omega
  have n3 : ¬ K.bohm = 0 := by omega
  have n4 : ¬ K.bohm = -1 := by omega
  have n5 : ¬ K.den = 0 := by omega
  have n6 : ¬ K.den = -1 := by omega
  have C1 := hide c1
  have C2 := hide c2
  have C3 := hide c3
  have C4 := hide c4
  have HW := Lib.hid hW
  clear c1 c2 c3 c4 hW hV hD hNN hM hO hSS bs br1 m1
  have hck := fun W => lckM K W
  simp only [hc, errV_zero] at hck
  have HCK := hide hck
  clear hck hc
  go_enter Tryz.func45, Tryz.ntmps45
  go_wp2_with fail
  with_reducible refine ((unhide HCK) _).mono ?_
  rintro e w1 ⟨rfl, hb1⟩
  have g01 := g0.below hb1 g0.lt
  have g11 := g1.below hb1 g1.lt
  have gx1 := gx.below hb1 gx.lt
  have gz1 := gz.below hb1 gz.lt
  have l01 := g01.lt
  have l11 := g11.lt
  have lx1 := gx1.lt
  have lz1 := gz1.lt
  have HB1 := hb0.trans (hb1.mono hb0.size)
  obtain ⟨y0, y1, y2, y3, y4, y5, y6, y7⟩ := g01.c8
  obtain ⟨z0, z1⟩ := g11.c2
  obtain ⟨x0, x1, x2⟩ := gx1.c3
  obtain ⟨o0, o1⟩ := gz1.c2
  have f0 := gz1.frozen 0
  have f1 := gz1.frozen 1
  by_cases h1 : K.bon ≤ V
  · rw [if_pos h1] at hB
    simp only [hB] at hR hN ⊢
    cases de
    · cases br
      · have hS0 : lkS K V false = S := hS
        have hR0 : lkR K V true false = R := by first | exact hR | (rw [hR]; simp)
        rw [hS0, hR0] at hN
        have t0 : wrap64 (-D) = -D := by unfold wrap64; omega
        have t1 : wrap64 (-D + S) = -D + S := by unfold wrap64; omega
        have t2 : wrap64 (-D + S - R) = N := by unfold wrap64; omega
        have t2b : -D + S - R = N := by omega
        have HBB := Lib.hid hB
        clear hS0 hR0 hS hR hN hB
        go_wp2_with (first | (go_at_call 99; (with_reducible refine ((unhide C1) _).mono ?_); rintro e w' ⟨rfl, rfl⟩) | (go_at_call 99; (with_reducible refine ((unhide C2) _).mono ?_); rintro e w' ⟨rfl, rfl⟩) | (go_at_call 99; (with_reducible refine ((unhide C4) _).mono ?_); rintro e w' ⟨rfl, rfl⟩))
        go_quiet ((go_at_call 99; first | exact quiet_left ((unhide C3) _) | exact quiet_add_left ((unhide C3) _)))
        go_wp2_with (first | (go_at_call 99; (with_reducible refine ((unhide C1) _).mono ?_); rintro e w' ⟨rfl, rfl⟩) | (go_at_call 99; (with_reducible refine ((unhide C2) _).mono ?_); rintro e w' ⟨rfl, rfl⟩) | (go_at_call 99; (with_reducible refine ((unhide C4) _).mono ?_); rintro e w' ⟨rfl, rfl⟩))
        refine bodyPost_ret (ret_cell_tmp rfl rfl (load_ls (((gz1.drewN _).set_ 0 _).set_ 1 _))) rfl ⟨by rw [HW.out, HBB.out]; try rfl, ?_⟩
        exact ((below_drewN HB1 _).setCell (by simp; try omega) _).setCell (by simp; try omega) _
      · have hS0 : lkS K V false = S := hS
        have hR0 : lkR K V true true = 0 := by first | exact hR | (rw [hR]; simp)
        rw [hS0, hR0] at hN
        have t0 : wrap64 (-D) = -D := by unfold wrap64; omega
        have t1 : wrap64 (-D + S) = N := by unfold wrap64; omega
        have t1b : -D + S = N := by omega
        have HBB := Lib.hid hB
        clear hS0 hR0 hS hR hN hB
        go_wp2_with (first | (go_at_call 99; (with_reducible refine ((unhide C1) _).mono ?_); rintro e w' ⟨rfl, rfl⟩) | (go_at_call 99; (with_reducible refine ((unhide C2) _).mono ?_); rintro e w' ⟨rfl, rfl⟩) | (go_at_call 99; (with_reducible refine ((unhide C4) _).mono ?_); rintro e w' ⟨rfl, rfl⟩))
        go_quiet ((go_at_call 99; first | exact quiet_left ((unhide C3) _) | exact quiet_add_left ((unhide C3) _)))
        go_wp2_with (first | (go_at_call 99; (with_reducible refine ((unhide C1) _).mono ?_); rintro e w' ⟨rfl, rfl⟩) | (go_at_call 99; (with_reducible refine ((unhide C2) _).mono ?_); rintro e w' ⟨rfl, rfl⟩) | (go_at_call 99; (with_reducible refine ((unhide C4) _).mono ?_); rintro e w' ⟨rfl, rfl⟩))
        refine bodyPost_ret (ret_cell_tmp rfl rfl (load_ls (((gz1.drewN _).set_ 0 _).set_ 1 _))) rfl ⟨by rw [HW.out, HBB.out]; try rfl, ?_⟩
        exact ((below_drewN HB1 _).setCell (by simp; try omega) _).setCell (by simp; try omega) _
    · cases br
      · have hS0 : lkS K V true = 0 := hS
        have hR0 : lkR K V true false = R := by first | exact hR | (rw [hR]; simp)
        rw [hS0, hR0] at hN
        have t0 : wrap64 (-D) = -D := by unfold wrap64; omega
        have t1 : wrap64 (-D - R) = N := by unfold wrap64; omega
        have t1b : -D - R = N := by omega
        have HBB := Lib.hid hB
        clear hS0 hR0 hS hR hN hB
        go_wp2_with (first | (go_at_call 99; (with_reducible refine ((unhide C1) _).mono ?_); rintro e w' ⟨rfl, rfl⟩) | (go_at_call 99; (with_reducible refine ((unhide C2) _).mono ?_); rintro e w' ⟨rfl, rfl⟩) | (go_at_call 99; (with_reducible refine ((unhide C4) _).mono ?_); rintro e w' ⟨rfl, rfl⟩))
        refine bodyPost_ret (ret_cell_tmp rfl rfl (load_ls ((gz1.set_ 0 _).set_ 1 _))) rfl ⟨by rw [HW.out, HBB.out]; try rfl, ?_⟩
        exact (HB1.setCell (by simp; try omega) _).setCell (by simp; try omega) _
      · have hS0 : lkS K V true = 0 := hS
        have hR0 : lkR K V true true = 0 := by first | exact hR | (rw [hR]; simp)
        rw [hS0, hR0] at hN
        have t0 : wrap64 (-D) = -D := by unfold wrap64; omega
        have t1 : -D = N := by omega
        have HBB := Lib.hid hB
        clear hS0 hR0 hS hR hN hB
        go_wp2_with (first | (go_at_call 99; (with_reducible refine ((unhide C1) _).mono ?_); rintro e w' ⟨rfl, rfl⟩) | (go_at_call 99; (with_reducible refine ((unhide C2) _).mono ?_); rintro e w' ⟨rfl, rfl⟩) | (go_at_call 99; (with_reducible refine ((unhide C4) _).mono ?_); rintro e w' ⟨rfl, rfl⟩))
        refine bodyPost_ret (ret_cell_tmp rfl rfl (load_ls ((gz1.set_ 0 _).set_ 1 _))) rfl ⟨by rw [HW.out, HBB.out]; try rfl, ?_⟩
        exact (HB1.setCell (by simp; try omega) _).setCell (by simp; try omega) _
  · rw [if_neg h1] at hB
    by_cases h2 : K.boff ≤ V
    · rw [if_pos h2] at hB
      simp only [hB] at hR hN ⊢
      cases b
      · skip
        cases de
        · have hS0 : lkS K V false = S := hS
          have hR0 : lkR K V false br = 0 := by first | exact hR | (rw [hR]; simp)
          rw [hS0, hR0] at hN
          have t0 : wrap64 (-D) = -D := by unfold wrap64; omega
          have t1 : wrap64 (-D + S) = N := by unfold wrap64; omega
          have t1b : -D + S = N := by omega
          have HBB := Lib.hid hB
          clear hS0 hR0 hS hR hN hB
          go_wp2_with (first | (go_at_call 99; (with_reducible refine ((unhide C1) _).mono ?_); rintro e w' ⟨rfl, rfl⟩) | (go_at_call 99; (with_reducible refine ((unhide C2) _).mono ?_); rintro e w' ⟨rfl, rfl⟩) | (go_at_call 99; (with_reducible refine ((unhide C4) _).mono ?_); rintro e w' ⟨rfl, rfl⟩))
          go_quiet ((go_at_call 99; first | exact quiet_left ((unhide C3) _) | exact quiet_add_left ((unhide C3) _)))
          go_wp2_with (first | (go_at_call 99; (with_reducible refine ((unhide C1) _).mono ?_); rintro e w' ⟨rfl, rfl⟩) | (go_at_call 99; (with_reducible refine ((unhide C2) _).mono ?_); rintro e w' ⟨rfl, rfl⟩) | (go_at_call 99; (with_reducible refine ((unhide C4) _).mono ?_); rintro e w' ⟨rfl, rfl⟩))
          refine bodyPost_ret (ret_cell_tmp rfl rfl (load_ls (((gz1.drewN _).set_ 0 _).set_ 1 _))) rfl ⟨by rw [HW.out, HBB.out]; try rfl, ?_⟩
          exact ((below_drewN HB1 _).setCell (by simp; try omega) _).setCell (by simp; try omega) _
        · have hS0 : lkS K V true = 0 := hS
          have hR0 : lkR K V false br = 0 := by first | exact hR | (rw [hR]; simp)
          rw [hS0, hR0] at hN
          have t0 : wrap64 (-D) = -D := by unfold wrap64; omega
          have t1 : -D = N := by omega
          have HBB := Lib.hid hB
          clear hS0 hR0 hS hR hN hB
          go_wp2_with (first | (go_at_call 99; (with_reducible refine ((unhide C1) _).mono ?_); rintro e w' ⟨rfl, rfl⟩) | (go_at_call 99; (with_reducible refine ((unhide C2) _).mono ?_); rintro e w' ⟨rfl, rfl⟩) | (go_at_call 99; (with_reducible refine ((unhide C4) _).mono ?_); rintro e w' ⟨rfl, rfl⟩))
          refine bodyPost_ret (ret_cell_tmp rfl rfl (load_ls ((gz1.set_ 0 _).set_ 1 _))) rfl ⟨by rw [HW.out, HBB.out]; try rfl, ?_⟩
          exact (HB1.setCell (by simp; try omega) _).setCell (by simp; try omega) _
      · skip
        cases de
        · cases br
          · have hS0 : lkS K V false = S := hS
            have hR0 : lkR K V true false = R := by first | exact hR | (rw [hR]; simp)
            rw [hS0, hR0] at hN
            have t0 : wrap64 (-D) = -D := by unfold wrap64; omega
            have t1 : wrap64 (-D + S) = -D + S := by unfold wrap64; omega
            have t2 : wrap64 (-D + S - R) = N := by unfold wrap64; omega
            have t2b : -D + S - R = N := by omega
            have HBB := Lib.hid hB
            clear hS0 hR0 hS hR hN hB
            go_wp2_with (first | (go_at_call 99; (with_reducible refine ((unhide C1) _).mono ?_); rintro e w' ⟨rfl, rfl⟩) | (go_at_call 99; (with_reducible refine ((unhide C2) _).mono ?_); rintro e w' ⟨rfl, rfl⟩) | (go_at_call 99; (with_reducible refine ((unhide C4) _).mono ?_); rintro e w' ⟨rfl, rfl⟩))
            go_quiet ((go_at_call 99; first | exact quiet_left ((unhide C3) _) | exact quiet_add_left ((unhide C3) _)))
            go_wp2_with (first | (go_at_call 99; (with_reducible refine ((unhide C1) _).mono ?_); rintro e w' ⟨rfl, rfl⟩) | (go_at_call 99; (with_reducible refine ((unhide C2) _).mono ?_); rintro e w' ⟨rfl, rfl⟩) | (go_at_call 99; (with_reducible refine ((unhide C4) _).mono ?_); rintro e w' ⟨rfl, rfl⟩))
            refine bodyPost_ret (ret_cell_tmp rfl rfl (load_ls (((gz1.drewN _).set_ 0 _).set_ 1 _))) rfl ⟨by rw [HW.out, HBB.out]; try rfl, ?_⟩
            exact ((below_drewN HB1 _).setCell (by simp; try omega) _).setCell (by simp; try omega) _
          · have hS0 : lkS K V false = S := hS
            have hR0 : lkR K V true true = 0 := by first | exact hR | (rw [hR]; simp)
            rw [hS0, hR0] at hN
            have t0 : wrap64 (-D) = -D := by unfold wrap64; omega
            have t1 : wrap64 (-D + S) = N := by unfold wrap64; omega
            have t1b : -D + S = N := by omega
            have HBB := Lib.hid hB
            clear hS0 hR0 hS hR hN hB
            go_wp2_with (first | (go_at_call 99; (with_reducible refine ((unhide C1) _).mono ?_); rintro e w' ⟨rfl, rfl⟩) | (go_at_call 99; (with_reducible refine ((unhide C2) _).mono ?_); rintro e w' ⟨rfl, rfl⟩) | (go_at_call 99; (with_reducible refine ((unhide C4) _).mono ?_); rintro e w' ⟨rfl, rfl⟩))
            go_quiet ((go_at_call 99; first | exact quiet_left ((unhide C3) _) | exact quiet_add_left ((unhide C3) _)))
            go_wp2_with (first | (go_at_call 99; (with_reducible refine ((unhide C1) _).mono ?_); rintro e w' ⟨rfl, rfl⟩) | (go_at_call 99; (with_reducible refine ((unhide C2) _).mono ?_); rintro e w' ⟨rfl, rfl⟩) | (go_at_call 99; (with_reducible refine ((unhide C4) _).mono ?_); rintro e w' ⟨rfl, rfl⟩))
            refine bodyPost_ret (ret_cell_tmp rfl rfl (load_ls (((gz1.drewN _).set_ 0 _).set_ 1 _))) rfl ⟨by rw [HW.out, HBB.out]; try rfl, ?_⟩
            exact ((below_drewN HB1 _).setCell (by simp; try omega) _).setCell (by simp; try omega) _
        · cases br
          · have hS0 : lkS K V true = 0 := hS
            have hR0 : lkR K V true false = R := by first | exact hR | (rw [hR]; simp)
            rw [hS0, hR0] at hN
            have t0 : wrap64 (-D) = -D := by unfold wrap64; omega
            have t1 : wrap64 (-D - R) = N := by unfold wrap64; omega
            have t1b : -D - R = N := by omega
            have HBB := Lib.hid hB
            clear hS0 hR0 hS hR hN hB
            go_wp2_with (first | (go_at_call 99; (with_reducible refine ((unhide C1) _).mono ?_); rintro e w' ⟨rfl, rfl⟩) | (go_at_call 99; (with_reducible refine ((unhide C2) _).mono ?_); rintro e w' ⟨rfl, rfl⟩) | (go_at_call 99; (with_reducible refine ((unhide C4) _).mono ?_); rintro e w' ⟨rfl, rfl⟩))
            refine bodyPost_ret (ret_cell_tmp rfl rfl (load_ls ((gz1.set_ 0 _).set_ 1 _))) rfl ⟨by rw [HW.out, HBB.out]; try rfl, ?_⟩
            exact (HB1.setCell (by simp; try omega) _).setCell (by simp; try omega) _
          · have hS0 : lkS K V true = 0 := hS
            have hR0 : lkR K V true true = 0 := by first | exact hR | (rw [hR]; simp)
            rw [hS0, hR0] at hN
            have t0 : wrap64 (-D) = -D := by unfold wrap64; omega
            have t1 : -D = N := by omega
            have HBB := Lib.hid hB
            clear hS0 hR0 hS hR hN hB
            go_wp2_with (first | (go_at_call 99; (with_reducible refine ((unhide C1) _).mono ?_); rintro e w' ⟨rfl, rfl⟩) | (go_at_call 99; (with_reducible refine ((unhide C2) _).mono ?_); rintro e w' ⟨rfl, rfl⟩) | (go_at_call 99; (with_reducible refine ((unhide C4) _).mono ?_); rintro e w' ⟨rfl, rfl⟩))
            refine bodyPost_ret (ret_cell_tmp rfl rfl (load_ls ((gz1.set_ 0 _).set_ 1 _))) rfl ⟨by rw [HW.out, HBB.out]; try rfl, ?_⟩
            exact (HB1.setCell (by simp; try omega) _).setCell (by simp; try omega) _
    · rw [if_neg h2] at hB
      simp only [hB] at hR hN ⊢
      cases de
      · have hS0 : lkS K V false = S := hS
        have hR0 : lkR K V false br = 0 := by first | exact hR | (rw [hR]; simp)
        rw [hS0, hR0] at hN
        have t0 : wrap64 (-D) = -D := by unfold wrap64; omega
        have t1 : wrap64 (-D + S) = N := by unfold wrap64; omega
        have t1b : -D + S = N := by omega
        have HBB := Lib.hid hB
        clear hS0 hR0 hS hR hN hB
        go_wp2_with (first | (go_at_call 99; (with_reducible refine ((unhide C1) _).mono ?_); rintro e w' ⟨rfl, rfl⟩) | (go_at_call 99; (with_reducible refine ((unhide C2) _).mono ?_); rintro e w' ⟨rfl, rfl⟩) | (go_at_call 99; (with_reducible refine ((unhide C4) _).mono ?_); rintro e w' ⟨rfl, rfl⟩))
        go_quiet ((go_at_call 99; first | exact quiet_left ((unhide C3) _) | exact quiet_add_left ((unhide C3) _)))
        go_wp2_with (first | (go_at_call 99; (with_reducible refine ((unhide C1) _).mono ?_); rintro e w' ⟨rfl, rfl⟩) | (go_at_call 99; (with_reducible refine ((unhide C2) _).mono ?_); rintro e w' ⟨rfl, rfl⟩) | (go_at_call 99; (with_reducible refine ((unhide C4) _).mono ?_); rintro e w' ⟨rfl, rfl⟩))
        refine bodyPost_ret (ret_cell_tmp rfl rfl (load_ls (((gz1.drewN _).set_ 0 _).set_ 1 _))) rfl ⟨by rw [HW.out, HBB.out]; try rfl, ?_⟩
        exact ((below_drewN HB1 _).setCell (by simp; try omega) _).setCell (by simp; try omega) _
      · have hS0 : lkS K V true = 0 := hS
        have hR0 : lkR K V false br = 0 := by first | exact hR | (rw [hR]; simp)
        rw [hS0, hR0] at hN
        have t0 : wrap64 (-D) = -D := by unfold wrap64; omega
        have t1 : -D = N := by omega
        have HBB := Lib.hid hB
        clear hS0 hR0 hS hR hN hB
        go_wp2_with (first | (go_at_call 99; (with_reducible refine ((unhide C1) _).mono ?_); rintro e w' ⟨rfl, rfl⟩) | (go_at_call 99; (with_reducible refine ((unhide C2) _).mono ?_); rintro e w' ⟨rfl, rfl⟩) | (go_at_call 99; (with_reducible refine ((unhide C4) _).mono ?_); rintro e w' ⟨rfl, rfl⟩))
        refine bodyPost_ret (ret_cell_tmp rfl rfl (load_ls ((gz1.set_ 0 _).set_ 1 _))) rfl ⟨by rw [HW.out, HBB.out]; try rfl, ?_⟩
        exact (HB1.setCell (by simp; try omega) _).setCell (by simp; try omega) _
set_option maxRecDepth 100000 in
set_option maxHeartbeats 6400000 in
theorem lstepR (K : LkC) (v : Int) (b : Bool) (dr : Int) (de br : Bool) (w : World) (hc : lkCode K = 0) :
    Calls Tryz.prog 62 #[.agg #[.int .i64 K.num, .int .i64 K.den, .int .i64 K.sup, .int .i64 K.fed, .int .i64 K.ohm, .int .i64 K.bon, .int .i64 K.boff, .int .i64 K.bohm], .agg #[.int .i64 v, .bool b], .agg #[.int .i64 dr, .bool de, .bool br]] w fun e w' => e = .returned (.agg #[.int .i64 (lkV K v b dr de br), .bool (lkBr K v b)]) ∧ Below w.heap.size w w' := by
  have ok := lk_ok hc
  have hb0 := ((((Below.refl w.heap.size w).alloc (Nat.le_refl _) (.cells #[.int .i64 K.num, .int .i64 K.den, .int .i64 K.sup, .int .i64 K.fed, .int .i64 K.ohm, .int .i64 K.bon, .int .i64 K.boff, .int .i64 K.bohm] 28)).alloc (by simp) (.cells #[.int .i64 v, .bool b] 43)).alloc (by simp <;> omega) (.cells #[.int .i64 dr, .bool de, .bool br] 114)).alloc (by simp <;> omega) (.cells #[.int .i64 0, .bool false] 43)
  have g0 := ((Blk.new w 28 #[.int .i64 K.num, .int .i64 K.den, .int .i64 K.sup, .int .i64 K.fed, .int .i64 K.ohm, .int .i64 K.bon, .int .i64 K.boff, .int .i64 K.bohm]).alloc (.cells #[.int .i64 v, .bool b] 43)).alloc (.cells #[.int .i64 dr, .bool de, .bool br] 114) |>.alloc (.cells #[.int .i64 0, .bool false] 43)
  have g1 := ((Blk.new' (w := w.alloc (.cells #[.int .i64 K.num, .int .i64 K.den, .int .i64 K.sup, .int .i64 K.fed, .int .i64 K.ohm, .int .i64 K.bon, .int .i64 K.boff, .int .i64 K.bohm] 28)) (t := 43) (cs := #[.int .i64 v, .bool b]) (g := w.heap.size + 1) (by simp)).alloc (.cells #[.int .i64 dr, .bool de, .bool br] 114)).alloc (.cells #[.int .i64 0, .bool false] 43)
  have gx := (Blk.new' (w := (w.alloc (.cells #[.int .i64 K.num, .int .i64 K.den, .int .i64 K.sup, .int .i64 K.fed, .int .i64 K.ohm, .int .i64 K.bon, .int .i64 K.boff, .int .i64 K.bohm] 28)).alloc (.cells #[.int .i64 v, .bool b] 43)) (t := 114) (cs := #[.int .i64 dr, .bool de, .bool br]) (g := w.heap.size + 1 + 1) (by simp)).alloc (.cells #[.int .i64 0, .bool false] 43)
  have gz := Blk.new' (w := ((w.alloc (.cells #[.int .i64 K.num, .int .i64 K.den, .int .i64 K.sup, .int .i64 K.fed, .int .i64 K.ohm, .int .i64 K.bon, .int .i64 K.boff, .int .i64 K.bohm] 28)).alloc (.cells #[.int .i64 v, .bool b] 43)).alloc (.cells #[.int .i64 dr, .bool de, .bool br] 114)) (t := 43) (cs := #[.int .i64 0, .bool false]) (g := w.heap.size + 1 + 1 + 1) (by simp)
  have c1 := fun W => clipLiR v 0 1048576 (by omega) W
  have c2 := fun W => clipLiR dr (-4194304) 4194304 (by omega) W
  have hlv : lkV K v b dr de br = lkW K (clipI v 0 1048576) b dr de br := rfl
  have hlb : lkBr K v b = lkB K (clipI v 0 1048576) b := rfl
  have bv := clip_bd v 0 1048576 (by omega)
  have bd := clip_bd dr (-4194304) 4194304 (by omega)
  obtain ⟨V, hV⟩ : ∃ x, clipI v 0 1048576 = x := ⟨_, rfl⟩
  rw [hV] at bv hlv hlb
  simp only [hV] at c1
  rw [hlv, hlb]
  clear hlv hlb
  have c3 := fun W => clipLiR (((K.sup - V) * 1000).tdiv K.ohm) 0 K.fed ok.fed.1 W
  have hS : lkS K V de = if de = true then 0 else clipI (((K.sup - V) * 1000).tdiv K.ohm) 0 K.fed := rfl
  have hR : lkR K V (lkB K V b) br = if lkB K V b = true ∧ br = false then (V * 1000).tdiv K.bohm else 0 := rfl
  have hB : lkB K V b = if K.bon ≤ V then true else if K.boff ≤ V then b else false := rfl
  have hN : lkN K V b dr de br = lkS K V de - clipI dr (-4194304) 4194304 - lkR K V (lkB K V b) br := rfl
  have hW : lkW K V b dr de br = clipI (V + (lkN K V b dr de br * K.num).tdiv K.den) 0 1048576 := rfl
  have bs := lkS_bd ok V de
  have br1 := lkR_bd ok bv (lkB K V b) br
  obtain ⟨D, hD⟩ : ∃ x, clipI dr (-4194304) 4194304 = x := ⟨_, rfl⟩
  rw [hD] at bd hN
  simp only [hD] at c2
  have k1 := ok.num
  have k2 := ok.den
  have k3 := ok.sup
  have k5 := ok.ohm
  have k8 := ok.bohm
  have k4 := ok.fed
  obtain ⟨N, hNN⟩ : ∃ x, lkN K V b dr de br = x := ⟨_, rfl⟩
  rw [hNN] at hN hW
  have bn : -1100000000 ≤ N ∧ N ≤ 1100000000 := by omega
  have m1 := mul_bd (a := N) (b := K.num) (A := 1100000000) (B := 1048576) bn (by omega)
  have q1 := tdiv_abs (N * K.num) K.den k2.1 (B := 1153433600000000) (by omega) (by omega)
  obtain ⟨M, hM⟩ : ∃ x, N * K.num = x := ⟨_, rfl⟩
  rw [hM] at m1 q1 hW
  have eM : IntKind.i64.wrap (N * K.num) = M := by rw [hM]; exact IntWalk.i64_in _ (by omega)
  have eM2 : wrap64 (N * K.num) = M := by rw [hM]; unfold wrap64; omega
  obtain ⟨Q, hQ⟩ : ∃ x, M.tdiv K.den = x := ⟨_, rfl⟩
  rw [hQ] at q1 hW
  have eQ : wrap64 (V + Q) = V + Q := by unfold wrap64; omega
  have eQ1 : wrap64 Q = Q := by unfold wrap64; omega
  have eQ2 : IntKind.i64.wrap Q = Q := IntWalk.i64_in _ (by omega)
  have c4 := fun W => clipLiR (V + Q) 0 1048576 (by omega) W
  obtain ⟨O, hO⟩ : ∃ x, clipI (V + Q) 0 1048576 = x := ⟨_, rfl⟩
  simp only [hO] at c4 hW
  have p1 := tdiv_abs ((K.sup - V) * 1000) K.ohm k5.1 (B := 1048576000) (by omega) (by omega)
  obtain ⟨U, hU⟩ : ∃ x, ((K.sup - V) * 1000).tdiv K.ohm = x := ⟨_, rfl⟩
  rw [hU] at hS p1
  simp only [hU] at c3
  have p2 := tdiv_abs (V * 1000) K.bohm k8.1 (B := 1048576000) (by omega) (by omega)
  obtain ⟨R, hRR⟩ : ∃ x, (V * 1000).tdiv K.bohm = x := ⟨_, rfl⟩
  rw [hRR] at hR p2
  obtain ⟨S, hSS⟩ : ∃ x, clipI U 0 K.fed = x := ⟨_, rfl⟩
  simp only [hSS] at c3 hS
  have bS := clip_bd U 0 K.fed k4.1
  rw [hSS] at bS
  have a1 : wrap64 (K.sup - V) = K.sup - V := by unfold wrap64; omega
  have a2 : IntKind.i64.wrap ((K.sup - V) * 1000) = (K.sup - V) * 1000 := IntWalk.i64_in _ (by omega)
  have a2' : wrap64 ((K.sup - V) * 1000) = (K.sup - V) * 1000 := by unfold wrap64; omega
  have a3 : IntKind.i64.wrap (V * 1000) = V * 1000 := IntWalk.i64_in _ (by omega)
  have a3' : wrap64 (V * 1000) = V * 1000 := by unfold wrap64; omega
  have a4 : IntKind.i64.wrap U = U := IntWalk.i64_in _ (by omega)
  have a4' : wrap64 U = U := by unfold wrap64; omega
  have a5 : IntKind.i64.wrap R = R := IntWalk.i64_in _ (by omega)
  have a5' : wrap64 R = R := by unfold wrap64; omega
  have n1 : ¬ K.ohm = 0 := by omega
  have n2 : ¬ K.ohm = -1 := by omega
  have n3 : ¬ K.bohm = 0 := by omega
  have n4 : ¬ K.bohm = -1 := by omega
  have n5 : ¬ K.den = 0 := by omega
  have n6 : ¬ K.den = -1 := by omega
  have C1 := hide c1
  have C2 := hide c2
  have C3 := hide c3
  have C4 := hide c4
  have HW := Lib.hid hW
  clear c1 c2 c3 c4 hW hV hD hNN hM hO hSS bs br1 m1
  clear hc
  go_enter Tryz.func62, Tryz.ntmps62
  go_wp2_with fail
  obtain ⟨w1, hw1⟩ : ∃ W, (((w.alloc (.cells #[.int .i64 K.num, .int .i64 K.den, .int .i64 K.sup, .int .i64 K.fed, .int .i64 K.ohm, .int .i64 K.bon, .int .i64 K.boff, .int .i64 K.bohm] 28)).alloc (.cells #[.int .i64 v, .bool b] 43)).alloc (.cells #[.int .i64 dr, .bool de, .bool br] 114)).alloc (.cells #[.int .i64 0, .bool false] 43) = W := ⟨_, rfl⟩
  rw [hw1] at hb0 g0 g1 gx gz
  have g01 := g0
  have g11 := g1
  have gx1 := gx
  have gz1 := gz
  have l01 := g01.lt
  have l11 := g11.lt
  have lx1 := gx1.lt
  have lz1 := gz1.lt
  have HB1 := hb0
  simp only [hw1]
  clear hw1 g0 g1 gx gz hb0
  obtain ⟨y0, y1, y2, y3, y4, y5, y6, y7⟩ := g01.c8
  obtain ⟨z0, z1⟩ := g11.c2
  obtain ⟨x0, x1, x2⟩ := gx1.c3
  obtain ⟨o0, o1⟩ := gz1.c2
  have f0 := gz1.frozen 0
  have f1 := gz1.frozen 1
  by_cases h1 : K.bon ≤ V
  · rw [if_pos h1] at hB
    simp only [hB] at hR hN ⊢
    cases de
    · cases br
      · have hS0 : lkS K V false = S := hS
        have hR0 : lkR K V true false = R := by first | exact hR | (rw [hR]; simp)
        rw [hS0, hR0] at hN
        have t1 : wrap64 (S - D) = S - D := by unfold wrap64; omega
        have t2 : wrap64 (S - D - R) = N := by unfold wrap64; omega
        have t2b : S - D - R = N := by omega
        have HBB := Lib.hid hB
        clear hS0 hR0 hS hR hN hB
        go_wp2_with (first | (go_at_call 117; (with_reducible refine ((unhide C1) _).mono ?_); rintro e w' ⟨rfl, rfl⟩) | (go_at_call 117; (with_reducible refine ((unhide C2) _).mono ?_); rintro e w' ⟨rfl, rfl⟩) | (go_at_call 117; (with_reducible refine ((unhide C4) _).mono ?_); rintro e w' ⟨rfl, rfl⟩))
        go_quiet ((go_at_call 117; first | exact quiet_left ((unhide C3) _) | exact quiet_add_left ((unhide C3) _)))
        go_wp2_with (first | (go_at_call 117; (with_reducible refine ((unhide C1) _).mono ?_); rintro e w' ⟨rfl, rfl⟩) | (go_at_call 117; (with_reducible refine ((unhide C2) _).mono ?_); rintro e w' ⟨rfl, rfl⟩) | (go_at_call 117; (with_reducible refine ((unhide C4) _).mono ?_); rintro e w' ⟨rfl, rfl⟩))
        refine bodyPost_ret (ret_cell rfl rfl (load_ls (((gz1.drewN _).set_ 0 _).set_ 1 _))) rfl ⟨by rw [HW.out, HBB.out]; try rfl, ?_⟩
        exact ((below_drewN HB1 _).setCell (by simp; try omega) _).setCell (by simp; try omega) _
      · have hS0 : lkS K V false = S := hS
        have hR0 : lkR K V true true = 0 := by first | exact hR | (rw [hR]; simp)
        rw [hS0, hR0] at hN
        have t1 : wrap64 (S - D) = S - D := by unfold wrap64; omega
        have t2 : wrap64 (S - D - 0) = N := by unfold wrap64; omega
        have t2b : S - D - 0 = N := by omega
        have t2e : wrap64 (S - D) = N := by unfold wrap64; omega
        have HBB := Lib.hid hB
        clear hS0 hR0 hS hR hN hB
        go_wp2_with (first | (go_at_call 117; (with_reducible refine ((unhide C1) _).mono ?_); rintro e w' ⟨rfl, rfl⟩) | (go_at_call 117; (with_reducible refine ((unhide C2) _).mono ?_); rintro e w' ⟨rfl, rfl⟩) | (go_at_call 117; (with_reducible refine ((unhide C4) _).mono ?_); rintro e w' ⟨rfl, rfl⟩))
        go_quiet ((go_at_call 117; first | exact quiet_left ((unhide C3) _) | exact quiet_add_left ((unhide C3) _)))
        go_wp2_with (first | (go_at_call 117; (with_reducible refine ((unhide C1) _).mono ?_); rintro e w' ⟨rfl, rfl⟩) | (go_at_call 117; (with_reducible refine ((unhide C2) _).mono ?_); rintro e w' ⟨rfl, rfl⟩) | (go_at_call 117; (with_reducible refine ((unhide C4) _).mono ?_); rintro e w' ⟨rfl, rfl⟩))
        refine bodyPost_ret (ret_cell rfl rfl (load_ls (((gz1.drewN _).set_ 0 _).set_ 1 _))) rfl ⟨by rw [HW.out, HBB.out]; try rfl, ?_⟩
        exact ((below_drewN HB1 _).setCell (by simp; try omega) _).setCell (by simp; try omega) _
    · cases br
      · have hS0 : lkS K V true = 0 := hS
        have hR0 : lkR K V true false = R := by first | exact hR | (rw [hR]; simp)
        rw [hS0, hR0] at hN
        have t1 : wrap64 (0 - D) = 0 - D := by unfold wrap64; omega
        have t2 : wrap64 (0 - D - R) = N := by unfold wrap64; omega
        have t2b : 0 - D - R = N := by omega
        have t1b : wrap64 (-D) = -D := by unfold wrap64; omega
        have t2c : -D - R = N := by omega
        have t2d : wrap64 (-D - R) = N := by unfold wrap64; omega
        have HBB := Lib.hid hB
        clear hS0 hR0 hS hR hN hB
        go_wp2_with (first | (go_at_call 117; (with_reducible refine ((unhide C1) _).mono ?_); rintro e w' ⟨rfl, rfl⟩) | (go_at_call 117; (with_reducible refine ((unhide C2) _).mono ?_); rintro e w' ⟨rfl, rfl⟩) | (go_at_call 117; (with_reducible refine ((unhide C4) _).mono ?_); rintro e w' ⟨rfl, rfl⟩))
        go_quiet ((go_at_call 117; first | exact quiet_left ((unhide C3) _) | exact quiet_add_left ((unhide C3) _)))
        go_wp2_with (first | (go_at_call 117; (with_reducible refine ((unhide C1) _).mono ?_); rintro e w' ⟨rfl, rfl⟩) | (go_at_call 117; (with_reducible refine ((unhide C2) _).mono ?_); rintro e w' ⟨rfl, rfl⟩) | (go_at_call 117; (with_reducible refine ((unhide C4) _).mono ?_); rintro e w' ⟨rfl, rfl⟩))
        refine bodyPost_ret (ret_cell rfl rfl (load_ls (((gz1.drewN _).set_ 0 _).set_ 1 _))) rfl ⟨by rw [HW.out, HBB.out]; try rfl, ?_⟩
        exact ((below_drewN HB1 _).setCell (by simp; try omega) _).setCell (by simp; try omega) _
      · have hS0 : lkS K V true = 0 := hS
        have hR0 : lkR K V true true = 0 := by first | exact hR | (rw [hR]; simp)
        rw [hS0, hR0] at hN
        have t1 : wrap64 (0 - D) = 0 - D := by unfold wrap64; omega
        have t2 : wrap64 (0 - D - 0) = N := by unfold wrap64; omega
        have t2b : 0 - D - 0 = N := by omega
        have t1b : wrap64 (-D) = -D := by unfold wrap64; omega
        have t2c : -D - 0 = N := by omega
        have t2d : wrap64 (-D - 0) = N := by unfold wrap64; omega
        have t2e : wrap64 (0 - D) = N := by unfold wrap64; omega
        have t2f : wrap64 (-D) = N := by unfold wrap64; omega
        have HBB := Lib.hid hB
        clear hS0 hR0 hS hR hN hB
        go_wp2_with (first | (go_at_call 117; (with_reducible refine ((unhide C1) _).mono ?_); rintro e w' ⟨rfl, rfl⟩) | (go_at_call 117; (with_reducible refine ((unhide C2) _).mono ?_); rintro e w' ⟨rfl, rfl⟩) | (go_at_call 117; (with_reducible refine ((unhide C4) _).mono ?_); rintro e w' ⟨rfl, rfl⟩))
        go_quiet ((go_at_call 117; first | exact quiet_left ((unhide C3) _) | exact quiet_add_left ((unhide C3) _)))
        go_wp2_with (first | (go_at_call 117; (with_reducible refine ((unhide C1) _).mono ?_); rintro e w' ⟨rfl, rfl⟩) | (go_at_call 117; (with_reducible refine ((unhide C2) _).mono ?_); rintro e w' ⟨rfl, rfl⟩) | (go_at_call 117; (with_reducible refine ((unhide C4) _).mono ?_); rintro e w' ⟨rfl, rfl⟩))
        refine bodyPost_ret (ret_cell rfl rfl (load_ls (((gz1.drewN _).set_ 0 _).set_ 1 _))) rfl ⟨by rw [HW.out, HBB.out]; try rfl, ?_⟩
        exact ((below_drewN HB1 _).setCell (by simp; try omega) _).setCell (by simp; try omega) _
  · rw [if_neg h1] at hB
    by_cases h2 : K.boff ≤ V
    · rw [if_pos h2] at hB
      simp only [hB] at hR hN ⊢
      cases b
      · skip
        cases de
        · have hS0 : lkS K V false = S := hS
          have hR0 : lkR K V false br = 0 := by first | exact hR | (rw [hR]; simp)
          rw [hS0, hR0] at hN
          have t1 : wrap64 (S - D) = S - D := by unfold wrap64; omega
          have t2 : wrap64 (S - D - 0) = N := by unfold wrap64; omega
          have t2b : S - D - 0 = N := by omega
          have t2e : wrap64 (S - D) = N := by unfold wrap64; omega
          have HBB := Lib.hid hB
          clear hS0 hR0 hS hR hN hB
          go_wp2_with (first | (go_at_call 117; (with_reducible refine ((unhide C1) _).mono ?_); rintro e w' ⟨rfl, rfl⟩) | (go_at_call 117; (with_reducible refine ((unhide C2) _).mono ?_); rintro e w' ⟨rfl, rfl⟩) | (go_at_call 117; (with_reducible refine ((unhide C4) _).mono ?_); rintro e w' ⟨rfl, rfl⟩))
          go_quiet ((go_at_call 117; first | exact quiet_left ((unhide C3) _) | exact quiet_add_left ((unhide C3) _)))
          go_wp2_with (first | (go_at_call 117; (with_reducible refine ((unhide C1) _).mono ?_); rintro e w' ⟨rfl, rfl⟩) | (go_at_call 117; (with_reducible refine ((unhide C2) _).mono ?_); rintro e w' ⟨rfl, rfl⟩) | (go_at_call 117; (with_reducible refine ((unhide C4) _).mono ?_); rintro e w' ⟨rfl, rfl⟩))
          refine bodyPost_ret (ret_cell rfl rfl (load_ls (((gz1.drewN _).set_ 0 _).set_ 1 _))) rfl ⟨by rw [HW.out, HBB.out]; try rfl, ?_⟩
          exact ((below_drewN HB1 _).setCell (by simp; try omega) _).setCell (by simp; try omega) _
        · have hS0 : lkS K V true = 0 := hS
          have hR0 : lkR K V false br = 0 := by first | exact hR | (rw [hR]; simp)
          rw [hS0, hR0] at hN
          have t1 : wrap64 (0 - D) = 0 - D := by unfold wrap64; omega
          have t2 : wrap64 (0 - D - 0) = N := by unfold wrap64; omega
          have t2b : 0 - D - 0 = N := by omega
          have t1b : wrap64 (-D) = -D := by unfold wrap64; omega
          have t2c : -D - 0 = N := by omega
          have t2d : wrap64 (-D - 0) = N := by unfold wrap64; omega
          have t2e : wrap64 (0 - D) = N := by unfold wrap64; omega
          have t2f : wrap64 (-D) = N := by unfold wrap64; omega
          have HBB := Lib.hid hB
          clear hS0 hR0 hS hR hN hB
          go_wp2_with (first | (go_at_call 117; (with_reducible refine ((unhide C1) _).mono ?_); rintro e w' ⟨rfl, rfl⟩) | (go_at_call 117; (with_reducible refine ((unhide C2) _).mono ?_); rintro e w' ⟨rfl, rfl⟩) | (go_at_call 117; (with_reducible refine ((unhide C4) _).mono ?_); rintro e w' ⟨rfl, rfl⟩))
          go_quiet ((go_at_call 117; first | exact quiet_left ((unhide C3) _) | exact quiet_add_left ((unhide C3) _)))
          go_wp2_with (first | (go_at_call 117; (with_reducible refine ((unhide C1) _).mono ?_); rintro e w' ⟨rfl, rfl⟩) | (go_at_call 117; (with_reducible refine ((unhide C2) _).mono ?_); rintro e w' ⟨rfl, rfl⟩) | (go_at_call 117; (with_reducible refine ((unhide C4) _).mono ?_); rintro e w' ⟨rfl, rfl⟩))
          refine bodyPost_ret (ret_cell rfl rfl (load_ls (((gz1.drewN _).set_ 0 _).set_ 1 _))) rfl ⟨by rw [HW.out, HBB.out]; try rfl, ?_⟩
          exact ((below_drewN HB1 _).setCell (by simp; try omega) _).setCell (by simp; try omega) _
      · skip
        cases de
        · cases br
          · have hS0 : lkS K V false = S := hS
            have hR0 : lkR K V true false = R := by first | exact hR | (rw [hR]; simp)
            rw [hS0, hR0] at hN
            have t1 : wrap64 (S - D) = S - D := by unfold wrap64; omega
            have t2 : wrap64 (S - D - R) = N := by unfold wrap64; omega
            have t2b : S - D - R = N := by omega
            have HBB := Lib.hid hB
            clear hS0 hR0 hS hR hN hB
            go_wp2_with (first | (go_at_call 117; (with_reducible refine ((unhide C1) _).mono ?_); rintro e w' ⟨rfl, rfl⟩) | (go_at_call 117; (with_reducible refine ((unhide C2) _).mono ?_); rintro e w' ⟨rfl, rfl⟩) | (go_at_call 117; (with_reducible refine ((unhide C4) _).mono ?_); rintro e w' ⟨rfl, rfl⟩))
            go_quiet ((go_at_call 117; first | exact quiet_left ((unhide C3) _) | exact quiet_add_left ((unhide C3) _)))
            go_wp2_with (first | (go_at_call 117; (with_reducible refine ((unhide C1) _).mono ?_); rintro e w' ⟨rfl, rfl⟩) | (go_at_call 117; (with_reducible refine ((unhide C2) _).mono ?_); rintro e w' ⟨rfl, rfl⟩) | (go_at_call 117; (with_reducible refine ((unhide C4) _).mono ?_); rintro e w' ⟨rfl, rfl⟩))
            refine bodyPost_ret (ret_cell rfl rfl (load_ls (((gz1.drewN _).set_ 0 _).set_ 1 _))) rfl ⟨by rw [HW.out, HBB.out]; try rfl, ?_⟩
            exact ((below_drewN HB1 _).setCell (by simp; try omega) _).setCell (by simp; try omega) _
          · have hS0 : lkS K V false = S := hS
            have hR0 : lkR K V true true = 0 := by first | exact hR | (rw [hR]; simp)
            rw [hS0, hR0] at hN
            have t1 : wrap64 (S - D) = S - D := by unfold wrap64; omega
            have t2 : wrap64 (S - D - 0) = N := by unfold wrap64; omega
            have t2b : S - D - 0 = N := by omega
            have t2e : wrap64 (S - D) = N := by unfold wrap64; omega
            have HBB := Lib.hid hB
            clear hS0 hR0 hS hR hN hB
            go_wp2_with (first | (go_at_call 117; (with_reducible refine ((unhide C1) _).mono ?_); rintro e w' ⟨rfl, rfl⟩) | (go_at_call 117; (with_reducible refine ((unhide C2) _).mono ?_); rintro e w' ⟨rfl, rfl⟩) | (go_at_call 117; (with_reducible refine ((unhide C4) _).mono ?_); rintro e w' ⟨rfl, rfl⟩))
            go_quiet ((go_at_call 117; first | exact quiet_left ((unhide C3) _) | exact quiet_add_left ((unhide C3) _)))
            go_wp2_with (first | (go_at_call 117; (with_reducible refine ((unhide C1) _).mono ?_); rintro e w' ⟨rfl, rfl⟩) | (go_at_call 117; (with_reducible refine ((unhide C2) _).mono ?_); rintro e w' ⟨rfl, rfl⟩) | (go_at_call 117; (with_reducible refine ((unhide C4) _).mono ?_); rintro e w' ⟨rfl, rfl⟩))
            refine bodyPost_ret (ret_cell rfl rfl (load_ls (((gz1.drewN _).set_ 0 _).set_ 1 _))) rfl ⟨by rw [HW.out, HBB.out]; try rfl, ?_⟩
            exact ((below_drewN HB1 _).setCell (by simp; try omega) _).setCell (by simp; try omega) _
        · cases br
          · have hS0 : lkS K V true = 0 := hS
            have hR0 : lkR K V true false = R := by first | exact hR | (rw [hR]; simp)
            rw [hS0, hR0] at hN
            have t1 : wrap64 (0 - D) = 0 - D := by unfold wrap64; omega
            have t2 : wrap64 (0 - D - R) = N := by unfold wrap64; omega
            have t2b : 0 - D - R = N := by omega
            have t1b : wrap64 (-D) = -D := by unfold wrap64; omega
            have t2c : -D - R = N := by omega
            have t2d : wrap64 (-D - R) = N := by unfold wrap64; omega
            have HBB := Lib.hid hB
            clear hS0 hR0 hS hR hN hB
            go_wp2_with (first | (go_at_call 117; (with_reducible refine ((unhide C1) _).mono ?_); rintro e w' ⟨rfl, rfl⟩) | (go_at_call 117; (with_reducible refine ((unhide C2) _).mono ?_); rintro e w' ⟨rfl, rfl⟩) | (go_at_call 117; (with_reducible refine ((unhide C4) _).mono ?_); rintro e w' ⟨rfl, rfl⟩))
            go_quiet ((go_at_call 117; first | exact quiet_left ((unhide C3) _) | exact quiet_add_left ((unhide C3) _)))
            go_wp2_with (first | (go_at_call 117; (with_reducible refine ((unhide C1) _).mono ?_); rintro e w' ⟨rfl, rfl⟩) | (go_at_call 117; (with_reducible refine ((unhide C2) _).mono ?_); rintro e w' ⟨rfl, rfl⟩) | (go_at_call 117; (with_reducible refine ((unhide C4) _).mono ?_); rintro e w' ⟨rfl, rfl⟩))
            refine bodyPost_ret (ret_cell rfl rfl (load_ls (((gz1.drewN _).set_ 0 _).set_ 1 _))) rfl ⟨by rw [HW.out, HBB.out]; try rfl, ?_⟩
            exact ((below_drewN HB1 _).setCell (by simp; try omega) _).setCell (by simp; try omega) _
          · have hS0 : lkS K V true = 0 := hS
            have hR0 : lkR K V true true = 0 := by first | exact hR | (rw [hR]; simp)
            rw [hS0, hR0] at hN
            have t1 : wrap64 (0 - D) = 0 - D := by unfold wrap64; omega
            have t2 : wrap64 (0 - D - 0) = N := by unfold wrap64; omega
            have t2b : 0 - D - 0 = N := by omega
            have t1b : wrap64 (-D) = -D := by unfold wrap64; omega
            have t2c : -D - 0 = N := by omega
            have t2d : wrap64 (-D - 0) = N := by unfold wrap64; omega
            have t2e : wrap64 (0 - D) = N := by unfold wrap64; omega
            have t2f : wrap64 (-D) = N := by unfold wrap64; omega
            have HBB := Lib.hid hB
            clear hS0 hR0 hS hR hN hB
            go_wp2_with (first | (go_at_call 117; (with_reducible refine ((unhide C1) _).mono ?_); rintro e w' ⟨rfl, rfl⟩) | (go_at_call 117; (with_reducible refine ((unhide C2) _).mono ?_); rintro e w' ⟨rfl, rfl⟩) | (go_at_call 117; (with_reducible refine ((unhide C4) _).mono ?_); rintro e w' ⟨rfl, rfl⟩))
            go_quiet ((go_at_call 117; first | exact quiet_left ((unhide C3) _) | exact quiet_add_left ((unhide C3) _)))
            go_wp2_with (first | (go_at_call 117; (with_reducible refine ((unhide C1) _).mono ?_); rintro e w' ⟨rfl, rfl⟩) | (go_at_call 117; (with_reducible refine ((unhide C2) _).mono ?_); rintro e w' ⟨rfl, rfl⟩) | (go_at_call 117; (with_reducible refine ((unhide C4) _).mono ?_); rintro e w' ⟨rfl, rfl⟩))
            refine bodyPost_ret (ret_cell rfl rfl (load_ls (((gz1.drewN _).set_ 0 _).set_ 1 _))) rfl ⟨by rw [HW.out, HBB.out]; try rfl, ?_⟩
            exact ((below_drewN HB1 _).setCell (by simp; try omega) _).setCell (by simp; try omega) _
    · rw [if_neg h2] at hB
      simp only [hB] at hR hN ⊢
      cases de
      · have hS0 : lkS K V false = S := hS
        have hR0 : lkR K V false br = 0 := by first | exact hR | (rw [hR]; simp)
        rw [hS0, hR0] at hN
        have t1 : wrap64 (S - D) = S - D := by unfold wrap64; omega
        have t2 : wrap64 (S - D - 0) = N := by unfold wrap64; omega
        have t2b : S - D - 0 = N := by omega
        have t2e : wrap64 (S - D) = N := by unfold wrap64; omega
        have HBB := Lib.hid hB
        clear hS0 hR0 hS hR hN hB
        go_wp2_with (first | (go_at_call 117; (with_reducible refine ((unhide C1) _).mono ?_); rintro e w' ⟨rfl, rfl⟩) | (go_at_call 117; (with_reducible refine ((unhide C2) _).mono ?_); rintro e w' ⟨rfl, rfl⟩) | (go_at_call 117; (with_reducible refine ((unhide C4) _).mono ?_); rintro e w' ⟨rfl, rfl⟩))
        go_quiet ((go_at_call 117; first | exact quiet_left ((unhide C3) _) | exact quiet_add_left ((unhide C3) _)))
        go_wp2_with (first | (go_at_call 117; (with_reducible refine ((unhide C1) _).mono ?_); rintro e w' ⟨rfl, rfl⟩) | (go_at_call 117; (with_reducible refine ((unhide C2) _).mono ?_); rintro e w' ⟨rfl, rfl⟩) | (go_at_call 117; (with_reducible refine ((unhide C4) _).mono ?_); rintro e w' ⟨rfl, rfl⟩))
        refine bodyPost_ret (ret_cell rfl rfl (load_ls (((gz1.drewN _).set_ 0 _).set_ 1 _))) rfl ⟨by rw [HW.out, HBB.out]; try rfl, ?_⟩
        exact ((below_drewN HB1 _).setCell (by simp; try omega) _).setCell (by simp; try omega) _
      · have hS0 : lkS K V true = 0 := hS
        have hR0 : lkR K V false br = 0 := by first | exact hR | (rw [hR]; simp)
        rw [hS0, hR0] at hN
        have t1 : wrap64 (0 - D) = 0 - D := by unfold wrap64; omega
        have t2 : wrap64 (0 - D - 0) = N := by unfold wrap64; omega
        have t2b : 0 - D - 0 = N := by omega
        have t1b : wrap64 (-D) = -D := by unfold wrap64; omega
        have t2c : -D - 0 = N := by omega
        have t2d : wrap64 (-D - 0) = N := by unfold wrap64; omega
        have t2e : wrap64 (0 - D) = N := by unfold wrap64; omega
        have t2f : wrap64 (-D) = N := by unfold wrap64; omega
        have HBB := Lib.hid hB
        clear hS0 hR0 hS hR hN hB
        go_wp2_with (first | (go_at_call 117; (with_reducible refine ((unhide C1) _).mono ?_); rintro e w' ⟨rfl, rfl⟩) | (go_at_call 117; (with_reducible refine ((unhide C2) _).mono ?_); rintro e w' ⟨rfl, rfl⟩) | (go_at_call 117; (with_reducible refine ((unhide C4) _).mono ?_); rintro e w' ⟨rfl, rfl⟩))
        go_quiet ((go_at_call 117; first | exact quiet_left ((unhide C3) _) | exact quiet_add_left ((unhide C3) _)))
        go_wp2_with (first | (go_at_call 117; (with_reducible refine ((unhide C1) _).mono ?_); rintro e w' ⟨rfl, rfl⟩) | (go_at_call 117; (with_reducible refine ((unhide C2) _).mono ?_); rintro e w' ⟨rfl, rfl⟩) | (go_at_call 117; (with_reducible refine ((unhide C4) _).mono ?_); rintro e w' ⟨rfl, rfl⟩))
        refine bodyPost_ret (ret_cell rfl rfl (load_ls (((gz1.drewN _).set_ 0 _).set_ 1 _))) rfl ⟨by rw [HW.out, HBB.out]; try rfl, ?_⟩
        exact ((below_drewN HB1 _).setCell (by simp; try omega) _).setCell (by simp; try omega) _
end Go.Proofs.YtpfkiohknpeifaaGreat
