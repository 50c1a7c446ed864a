/- The walks of square roots and lengths, and of the references. -/
import Derived.Test.YtmmplfokidnpnaaMStart
namespace Go.Proofs.Ytmmplfokidnpnaa
open Go.RowKit
/-- The greatest number of which the square is at most n. -/
def sqN (n : Nat) : Nat := ff (fun k => decide (n < (k + 1) * (k + 1))) (n + 1)
theorem sqN_eq {n r : Nat} (h1 : r * r ≤ n) (h2 : n < (r + 1) * (r + 1)) : sqN n = r := by
  refine ff_hit ?_ (fun i hi => ?_) (by simpa using h2)
  · have : r ≤ r * r := Nat.le_mul_self r
    omega
  · have : (i + 1) * (i + 1) ≤ r * r := Nat.mul_le_mul hi hi
    simp only [decide_eq_false_iff_not]
    omega
theorem sqN_spec (n : Nat) : sqN n * sqN n ≤ n ∧ n < (sqN n + 1) * (sqN n + 1) := by
  have : ∃ r, r * r ≤ n ∧ n < (r + 1) * (r + 1) := by
    induction n with
    | zero => exact ⟨0, by decide, by decide⟩
    | succ n ih =>
      obtain ⟨r, h1, h2⟩ := ih
      by_cases h : n + 1 < (r + 1) * (r + 1)
      · exact ⟨r, by omega, h⟩
      · refine ⟨r + 1, by omega, ?_⟩
        have : (r + 1 + 1) * (r + 1 + 1) = (r + 1) * (r + 1) + 2 * (r + 1) + 1 := by
          rw [Nat.add_mul (r + 1) 1, Nat.mul_add (r + 1) (r + 1) 1]
          omega
        omega
  obtain ⟨r, h1, h2⟩ := this
  rw [sqN_eq h1 h2]
  exact ⟨h1, h2⟩
theorem sqN_bd {n : Nat} (h : n ≤ 4611686018427387904) : sqN n ≤ 2147483648 := by
  have h1 := (sqN_spec n).1
  refine Nat.le_of_not_lt fun h2 => ?_
  have : 2147483649 * 2147483649 ≤ sqN n * sqN n := Nat.mul_le_mul h2 h2
  omega
/-- The least number of which the square is at least n. -/
def upN (n : Nat) : Nat := if sqN n * sqN n < n then sqN n + 1 else sqN n
/-- The bits of the loop: 0, 1, 2, 4 .. -/
def bt : Nat → Nat
  | 0 => 0
  | k + 1 => 2 ^ k
theorem bt_half (k : Nat) : 2 ^ k / 2 = bt k := by
  cases k with
  | zero => rfl
  | succ k => rw [bt, Nat.pow_succ]; omega
theorem or_add (j k : Nat) (h : j * 2 ^ (k + 1) + 2 ^ k < 4294967296) : bits .or .i64 ((j * 2 ^ (k + 1) : Nat) : Int) ((2 ^ k : Nat) : Int) = ((j * 2 ^ (k + 1) + 2 ^ k : Nat) : Int) := by
  have hp : 2 ^ k < 2 ^ (k + 1) := by rw [Nat.pow_succ]; have := Nat.two_pow_pos k; omega
  have h1 := Nat.two_pow_add_eq_or_of_lt hp j
  rw [Nat.mul_comm] at h1
  show IntKind.i64.wrap ((bv ((j * 2 ^ (k + 1) : Nat) : Int) ||| bv ((2 ^ k : Nat) : Int)).toNat : Int) = _
  rw [BitVec.toNat_or]
  generalize j * 2 ^ (k + 1) = R at *
  generalize 2 ^ k = P at *
  have e1 : (bv (R : Int)).toNat = R := by unfold bv; rw [BitVec.toNat_ofInt]; omega
  have e2 : (bv (P : Int)).toNat = P := by unfold bv; rw [BitVec.toNat_ofInt]; omega
  rw [e1, e2, ← h1, IntKind.wrap_i64]
  omega
/-- What is known of the root at the bit k. -/
def SqI (N R P : Nat) : Prop := R * R ≤ N ∧ N < (R + P) * (R + P) ∧ R + P ≤ 4294967296
set_option maxRecDepth 100000 in
set_option maxHeartbeats 1600000 in
theorem sqM (N : Nat) (hN : N ≤ 4611686018427387904) (w : World) : Calls Try.prog 86 #[.int .i64 N] w fun e w' => e = .returned (.int .i64 (sqN N)) ∧ w = w' := by
  go_enter Try.func86, Try.ntmps86
  go_wp2
  go_loopw [3, 4] (fun u3 u4 wr => ∃ k j : Nat, k ≤ 32 ∧ u3 = .int .i64 ((j * 2 ^ k : Nat) : Int) ∧ u4 = .int .i64 ((bt k : Nat) : Int) ∧ Hid (SqI N (j * 2 ^ k) (2 ^ k)) ∧ wr = w) (fun _ u4 _ => (intOf u4).toNat)
  case atStart => exact ⟨32, 0, Nat.le_refl _, by simp, by simp [bt], ⟨by simp, by simp; omega, by simp⟩, rfl⟩
  case round =>
  obtain ⟨k, j, hk, rfl, rfl, hI, rfl⟩ := hrel
  cases k with
  | zero =>
    have hs := Lib.hid (sqN_eq (n := N) (r := j * 2 ^ 0) hI.out.1 hI.out.2.1)
    obtain ⟨R, hR⟩ : ∃ R, j * 2 ^ 0 = R := ⟨_, rfl⟩
    rw [hR] at hs ⊢
    rw [show bt 0 = 0 from rfl]
    clear hR hI
    go_wp2
    go_ret
    exact ⟨by rw [hs.out]; rfl, rfl⟩
  | succ k =>
    have hI' := hI.out
    unfold SqI at hI'
    have hor := or_add j k (by have := Nat.two_pow_pos k; have := hI'.2.2; rw [Nat.pow_succ] at this ⊢; omega)
    have hhf := bt_half k
    have hw1 : Hid ((2 * j) * 2 ^ k = j * 2 ^ (k + 1)) := by show _ = _; rw [Nat.pow_succ, Nat.mul_comm 2 j, Nat.mul_assoc, Nat.mul_comm 2 (2 ^ k)]
    have hw2 : Hid ((2 * j + 1) * 2 ^ k = j * 2 ^ (k + 1) + 2 ^ k) := by show _ = _; rw [Nat.add_mul, Nat.one_mul]; exact congrArg (· + 2 ^ k) hw1.out
    have hpp : 2 ^ (k + 1) = 2 ^ k + 2 ^ k := by rw [Nat.pow_succ]; omega
    have hp1 := Nat.two_pow_pos k
    rw [show bt (k + 1) = 2 ^ k from rfl]
    obtain ⟨R, hR⟩ : ∃ R, j * 2 ^ (k + 1) = R := ⟨_, rfl⟩
    rw [hR] at hI' hor hw1 hw2 ⊢
    rw [hpp] at hI'
    obtain ⟨S, hS⟩ : ∃ S, bt k = S := ⟨_, rfl⟩
    rw [hS] at hhf
    obtain ⟨P, hP⟩ : ∃ P, 2 ^ k = P := ⟨_, rfl⟩
    rw [hP] at hI' hor hw2 hw1 hp1 hhf ⊢
    obtain ⟨i1, i2, i3⟩ := hI'
    have HW1 := Lib.hid hw1.out
    have HW2 := Lib.hid hw2.out
    have HP := Lib.hid hP
    have HS := Lib.hid hS
    have I1 := Lib.hid i1
    have I2 := Lib.hid i2
    obtain ⟨X, hX⟩ : ∃ X, R + P = X := ⟨_, rfl⟩
    have hXb : R + P = X := hX
    have I3 := Lib.hid i2
    clear hw1 hw2 hP hS i1 i2 hR hpp hI
    rw [hX] at hor
    have HX := Lib.hid hX
    have hX1 : 1 ≤ X := by omega
    have hX2 : X ≤ 4294967296 := by omega
    clear hX hXb
    have hXP : 2 * P ≤ 4294967296 := by omega
    obtain ⟨Q, hQ⟩ : ∃ Q, N / X = Q := ⟨_, rfl⟩
    have hq : ((N : Int)).tdiv (X : Int) = (Q : Int) := by rw [Int.tdiv_eq_ediv_of_nonneg (by omega), ← hQ]; rfl
    have hQb : Q ≤ 4611686018427387904 := by rw [← hQ]; exact Nat.le_trans (Nat.div_le_self _ _) hN
    have hc : X ≤ Q ↔ X * X ≤ N := by rw [← hQ]; exact Nat.le_div_iff_mul_le hX1
    have HC := Lib.hid hc
    clear hc hQ
    have hsh : ((P : Int)) / 2 = (S : Int) := by omega
    by_cases hle : X ≤ Q
    · go_wp2
      go_roundw
      case rel => exact ⟨k, 2 * j + 1, by omega, by rw [HP.out, HW2.out, HX.out], by rw [HS.out], hide (by
        rw [HP.out, HW2.out, HX.out]
        refine ⟨HC.out.1 hle, ?_, by have := HX.out; omega⟩
        have := I2.out
        rwa [show R + (P + P) = X + P by have := HX.out; omega] at this), trivial⟩
      case measure => simp [intOf]; omega
    · go_wp2
      go_roundw
      case rel => exact ⟨k, 2 * j, by omega, by rw [HP.out, HW1.out], by rw [HS.out], hide (by
        rw [HP.out, HW1.out]
        refine ⟨I1.out, ?_, by omega⟩
        rw [HX.out]
        exact Nat.lt_of_not_le fun h => hle (HC.out.2 h)), trivial⟩
      case measure => simp [intOf]; omega
set_option maxRecDepth 100000 in
set_option maxHeartbeats 1600000 in
theorem sqR (N : Nat) (hN : N ≤ 4611686018427387904) (w : World) : Calls Try.prog 73 #[.int .i64 N] w fun e w' => e = .returned (.int .i64 (sqN N)) ∧ w = w' := by
  by_cases h0 : N = 0
  · subst h0
    have hz : sqN 0 = 0 := by decide
    rw [hz]
    go_enter Try.func73, Try.ntmps73
    go_wp2
    go_ret
    exact ⟨rfl, rfl⟩
  go_enter Try.func73, Try.ntmps73
  go_wp2
  go_loopw [3, 4] (fun u3 u4 wr => ∃ k j : Nat, k ≤ 32 ∧ u3 = .int .i64 ((j * 2 ^ k : Nat) : Int) ∧ u4 = .int .i64 ((bt k : Nat) : Int) ∧ Hid (SqI N (j * 2 ^ k) (2 ^ k)) ∧ wr = w) (fun _ u4 _ => (intOf u4).toNat)
  case atStart => exact ⟨32, 0, Nat.le_refl _, by simp, by simp [bt], ⟨by simp, by simp; omega, by simp⟩, rfl⟩
  case round =>
  obtain ⟨k, j, hk, rfl, rfl, hI, rfl⟩ := hrel
  cases k with
  | zero =>
    have hs := Lib.hid (sqN_eq (n := N) (r := j * 2 ^ 0) hI.out.1 hI.out.2.1)
    obtain ⟨R, hR⟩ : ∃ R, j * 2 ^ 0 = R := ⟨_, rfl⟩
    rw [hR] at hs ⊢
    rw [show bt 0 = 0 from rfl]
    clear hR hI
    go_wp2
    go_ret
    exact ⟨by rw [hs.out]; rfl, rfl⟩
  | succ k =>
    have hI' := hI.out
    unfold SqI at hI'
    have hor := or_add j k (by have := Nat.two_pow_pos k; have := hI'.2.2; rw [Nat.pow_succ] at this ⊢; omega)
    have hhf := bt_half k
    have hw1 : Hid ((2 * j) * 2 ^ k = j * 2 ^ (k + 1)) := by show _ = _; rw [Nat.pow_succ, Nat.mul_comm 2 j, Nat.mul_assoc, Nat.mul_comm 2 (2 ^ k)]
    have hw2 : Hid ((2 * j + 1) * 2 ^ k = j * 2 ^ (k + 1) + 2 ^ k) := by show _ = _; rw [Nat.add_mul, Nat.one_mul]; exact congrArg (· + 2 ^ k) hw1.out
    have hpp : 2 ^ (k + 1) = 2 ^ k + 2 ^ k := by rw [Nat.pow_succ]; omega
    have hp1 := Nat.two_pow_pos k
    rw [show bt (k + 1) = 2 ^ k from rfl]
    obtain ⟨R, hR⟩ : ∃ R, j * 2 ^ (k + 1) = R := ⟨_, rfl⟩
    rw [hR] at hI' hor hw1 hw2 ⊢
    rw [hpp] at hI'
    obtain ⟨S, hS⟩ : ∃ S, bt k = S := ⟨_, rfl⟩
    rw [hS] at hhf
    obtain ⟨P, hP⟩ : ∃ P, 2 ^ k = P := ⟨_, rfl⟩
    rw [hP] at hI' hor hw2 hw1 hp1 hhf ⊢
    obtain ⟨i1, i2, i3⟩ := hI'
    have HW1 := Lib.hid hw1.out
    have HW2 := Lib.hid hw2.out
    have HP := Lib.hid hP
    have HS := Lib.hid hS
    have I1 := Lib.hid i1
    have I2 := Lib.hid i2
    obtain ⟨X, hX⟩ : ∃ X, R + P = X := ⟨_, rfl⟩
    have hXb : R + P = X := hX
    have I3 := Lib.hid i2
    clear hw1 hw2 hP hS i1 i2 hR hpp hI
    clear hor
    have hsh : ((P : Int)).tdiv 2 = (S : Int) := by rw [Int.tdiv_eq_ediv_of_nonneg (by omega)]; omega
    have HX := Lib.hid hX
    have hX2 : (R : Int) + P ≤ 4294967296 := by omega
    by_cases hb : (R : Int) + P ≤ 3037000499
    · have hy0 : X * X ≤ 3037000499 * 3037000499 := Nat.mul_le_mul (by omega) (by omega)
      obtain ⟨Y, hY⟩ : ∃ Y, X * X = Y := ⟨_, rfl⟩
      rw [hY] at hy0
      have hyi : ((R : Int) + P) * ((R : Int) + P) = (Y : Int) := by rw [← hY, ← hX]; push_cast; rfl
      have hyw : IntKind.i64.wrap (((R : Int) + P) * ((R : Int) + P)) = (Y : Int) := by rw [hyi]; exact IntWalk.i64_in _ (by omega)
      have HY := Lib.hid hY
      clear hX hXb hY
      by_cases hm : Y ≤ N
      · go_wp2
        go_roundw
        case rel => exact ⟨k, 2 * j + 1, by omega, by rw [HP.out, HW2.out]; push_cast; rfl, by rw [HS.out], hide (by
          rw [HP.out, HW2.out, HX.out]
          refine ⟨by rw [HY.out]; exact hm, ?_, by have := HX.out; omega⟩
          have := I2.out
          rwa [show R + (P + P) = X + P by have := HX.out; omega] at this), trivial⟩
        case measure => simp [intOf]; omega
      · go_wp2
        go_roundw
        case rel => exact ⟨k, 2 * j, by omega, by rw [HP.out, HW1.out], by rw [HS.out], hide (by
          rw [HP.out, HW1.out]
          refine ⟨I1.out, ?_, by omega⟩
          rw [HX.out, HY.out]
          omega), trivial⟩
        case measure => simp [intOf]; omega
    · have hbig : N < X * X := by
        have : 3037000500 * 3037000500 ≤ X * X := Nat.mul_le_mul (by omega) (by omega)
        omega
      have HB := Lib.hid hbig
      clear hX hXb hbig
      go_wp2
      go_roundw
      case rel => exact ⟨k, 2 * j, by omega, by rw [HP.out, HW1.out], by rw [HS.out], hide (by
        rw [HP.out, HW1.out]
        refine ⟨I1.out, ?_, by omega⟩
        rw [HX.out]
        exact HB.out), trivial⟩
      case measure => simp [intOf]; omega
set_option maxRecDepth 100000 in
theorem upM (N : Nat) (hN : N ≤ 4611686018427387904) (w : World) : Calls Try.prog 76 #[.int .i64 N] w fun e w' => e = .returned (.int .i64 (upN N)) ∧ w = w' := by
  have hsq := fun W => sqM N hN W
  have hv : upN N = if sqN N * sqN N < N then sqN N + 1 else sqN N := rfl
  have hb := sqN_bd hN
  obtain ⟨r, hr⟩ : ∃ r, sqN N = r := ⟨_, rfl⟩
  simp only [hr] at hsq hv hb
  have hy0 : r * r ≤ 2147483648 * 2147483648 := Nat.mul_le_mul hb hb
  obtain ⟨Y, hY⟩ : ∃ Y, r * r = Y := ⟨_, rfl⟩
  rw [hY] at hv hy0
  have hyi : (r : Int) * r = (Y : Int) := by rw [← hY]; push_cast; rfl
  have hyw : IntKind.i64.wrap ((r : Int) * r) = (Y : Int) := by rw [hyi]; exact IntWalk.i64_in _ (by omega)
  have HSQ := hide hsq
  have HV := Lib.hid hv
  clear hsq hr hv hY
  go_enter Try.func76, Try.ntmps76
  by_cases h0 : N < 1
  · go_wp2_with fail
    with_reducible refine ((unhide HSQ) _).mono ?_
    rintro e w' ⟨rfl, rfl⟩
    go_wp2
    go_ret
    exact ⟨by rw [HV.out, if_neg (by omega)]; rfl, rfl⟩
  · by_cases h1 : Y < N
    · go_wp2_with fail
      with_reducible refine ((unhide HSQ) _).mono ?_
      rintro e w' ⟨rfl, rfl⟩
      go_wp2
      go_ret
      exact ⟨by rw [HV.out, if_pos h1]; rfl, rfl⟩
    · go_wp2_with fail
      with_reducible refine ((unhide HSQ) _).mono ?_
      rintro e w' ⟨rfl, rfl⟩
      go_wp2
      go_ret
      exact ⟨by rw [HV.out, if_neg h1]; rfl, rfl⟩
set_option maxRecDepth 100000 in
theorem upR (N : Nat) (hN : N ≤ 4611686018427387904) (w : World) : Calls Try.prog 54 #[.int .i64 N] w fun e w' => e = .returned (.int .i64 (upN N)) ∧ w = w' := by
  have hsq := fun W => sqR N hN W
  have hv : upN N = if sqN N * sqN N < N then sqN N + 1 else sqN N := rfl
  have hb := sqN_bd hN
  obtain ⟨r, hr⟩ : ∃ r, sqN N = r := ⟨_, rfl⟩
  simp only [hr] at hsq hv hb
  have hy0 : r * r ≤ 2147483648 * 2147483648 := Nat.mul_le_mul hb hb
  obtain ⟨Y, hY⟩ : ∃ Y, r * r = Y := ⟨_, rfl⟩
  rw [hY] at hv hy0
  have hyi : (r : Int) * r = (Y : Int) := by rw [← hY]; push_cast; rfl
  have hyw : IntKind.i64.wrap ((r : Int) * r) = (Y : Int) := by rw [hyi]; exact IntWalk.i64_in _ (by omega)
  have HSQ := hide hsq
  have HV := Lib.hid hv
  clear hsq hr hv hY
  go_enter Try.func54, Try.ntmps54
  by_cases h0 : N < 1
  · go_wp2_with fail
    with_reducible refine ((unhide HSQ) _).mono ?_
    rintro e w' ⟨rfl, rfl⟩
    go_wp2
    go_ret
    exact ⟨by rw [HV.out, if_neg (by omega)]; rfl, rfl⟩
  · by_cases h1 : Y < N
    · go_wp2_with fail
      with_reducible refine ((unhide HSQ) _).mono ?_
      rintro e w' ⟨rfl, rfl⟩
      go_wp2
      go_ret
      exact ⟨by rw [HV.out, if_pos h1]; rfl, rfl⟩
    · go_wp2_with fail
      with_reducible refine ((unhide HSQ) _).mono ?_
      rintro e w' ⟨rfl, rfl⟩
      go_wp2
      go_ret
      exact ⟨by rw [HV.out, if_neg h1]; rfl, rfl⟩
set_option maxRecDepth 100000 in
theorem nearM (X : List Int) (ax : Addr) (n c : Nat) (w : World) (SX : Sl w w.heap.size 1 (some ax) (rows X)) (hn : n = X.length) (hs : n ≤ 1000) (hb : ∀ i, i < n → -1073741824 ≤ g X i ∧ g X i ≤ 1073741824) :
    Calls Try.prog 75 #[.slice (some ax) n c] w fun e w' => e = .returned (.bool true) ∧ w = w' := by
  have HN := Lib.hid hn
  have HB := hide hb
  clear hn hb
  go_enter Try.func75, Try.ntmps75
  go_wp2
  go_loopw [7] (fun i wr => ∃ k : Nat, k ≤ n ∧ i = .int .i64 k ∧ wr = w) (fun i _ => n - (intOf i).toNat)
  case atStart => exact ⟨0, Nat.zero_le _, rfl, rfl⟩
  case round =>
  obtain ⟨k, hk, rfl, rfl⟩ := hrel
  by_cases hlt : k < n
  · obtain ⟨p, hpa, hpb, c0⟩ := SX.at1' (k := k) (by have := HN.out; omega)
    have hbk := (unhide HB) k hlt
    obtain ⟨x, hx⟩ : ∃ x, g X k = x := ⟨_, rfl⟩
    rw [hx] at hbk c0
    obtain ⟨b1, b2⟩ := hbk
    clear hx
    go_wp2
    go_roundw
    case rel => exact ⟨k + 1, by omega, by go_num, trivial⟩
    case measure => simp [intOf]; omega
  · obtain rfl : k = n := by omega
    go_wp2
    go_ret
    exact ⟨rfl, rfl⟩
set_option maxRecDepth 100000 in
theorem nearR (X : List Int) (ax : Addr) (n c : Nat) (w : World) (SX : Sl w w.heap.size 1 (some ax) (rows X)) (hn : n = X.length) (hs : n ≤ 1000) (hb : ∀ i, i < n → -1073741824 ≤ g X i ∧ g X i ≤ 1073741824) :
    Calls Try.prog 53 #[.slice (some ax) n c] w fun e w' => e = .returned (.bool true) ∧ w = w' := by
  have HN := Lib.hid hn
  have HB := hide hb
  clear hn hb
  go_enter Try.func53, Try.ntmps53
  go_wp2
  go_loopw [7] (fun i wr => ∃ k : Nat, k ≤ n ∧ i = .int .i64 k ∧ wr = w) (fun i _ => n - (intOf i).toNat)
  case atStart => exact ⟨0, Nat.zero_le _, rfl, rfl⟩
  case round =>
  obtain ⟨k, hk, rfl, rfl⟩ := hrel
  by_cases hlt : k < n
  · obtain ⟨p, hpa, hpb, c0⟩ := SX.at1' (k := k) (by have := HN.out; omega)
    have hbk := (unhide HB) k hlt
    obtain ⟨x, hx⟩ : ∃ x, g X k = x := ⟨_, rfl⟩
    rw [hx] at hbk c0
    obtain ⟨b1, b2⟩ := hbk
    clear hx
    go_wp2
    go_roundw
    case rel => exact ⟨k + 1, by omega, by go_num, trivial⟩
    case measure => simp [intOf]; omega
  · obtain rfl : k = n := by omega
    go_wp2
    go_ret
    exact ⟨rfl, rfl⟩
set_option maxRecDepth 100000 in
theorem cnearM (X : List Int) (ax : Addr) (n c : Nat) (w : World) (SX : Sl w w.heap.size 1 (some ax) (rows X)) (hn : n = X.length) (hs : n ≤ 1000) (hb : ∀ i, i < n → -1073741824 ≤ g X i ∧ g X i ≤ 1073741824) :
    Calls Try.prog 71 #[.slice (some ax) n c] w fun e w' => e = .returned .nilIface ∧ w = w' := by
  have HN := Lib.hid hn
  have HB := hide hb
  clear hn hb
  go_enter Try.func71, Try.ntmps71
  go_wp2
  go_loopw [7] (fun i wr => ∃ k : Nat, k ≤ n ∧ i = .int .i64 k ∧ wr = w) (fun i _ => n - (intOf i).toNat)
  case atStart => exact ⟨0, Nat.zero_le _, rfl, rfl⟩
  case round =>
  obtain ⟨k, hk, rfl, rfl⟩ := hrel
  by_cases hlt : k < n
  · obtain ⟨p, hpa, hpb, c0⟩ := SX.at1' (k := k) (by have := HN.out; omega)
    have hbk := (unhide HB) k hlt
    obtain ⟨x, hx⟩ : ∃ x, g X k = x := ⟨_, rfl⟩
    rw [hx] at hbk c0
    obtain ⟨b1, b2⟩ := hbk
    clear hx
    go_wp2
    go_roundw
    case rel => exact ⟨k + 1, by omega, by go_num, trivial⟩
    case measure => simp [intOf]; omega
  · obtain rfl : k = n := by omega
    go_wp2
    go_ret
    exact ⟨rfl, rfl⟩
set_option maxRecDepth 100000 in
theorem cnearR (X : List Int) (ax : Addr) (n c : Nat) (w : World) (SX : Sl w w.heap.size 1 (some ax) (rows X)) (hn : n = X.length) (hs : n ≤ 1000) (hb : ∀ i, i < n → -1073741824 ≤ g X i ∧ g X i ≤ 1073741824) :
    Calls Try.prog 74 #[.slice (some ax) n c] w fun e w' => e = .returned (.int .i64 0) ∧ w = w' := by
  have HN := Lib.hid hn
  have HB := hide hb
  clear hn hb
  go_enter Try.func74, Try.ntmps74
  go_wp2
  go_loopw [7] (fun i wr => ∃ k : Nat, k ≤ n ∧ i = .int .i64 k ∧ wr = w) (fun i _ => n - (intOf i).toNat)
  case atStart => exact ⟨0, Nat.zero_le _, rfl, rfl⟩
  case round =>
  obtain ⟨k, hk, rfl, rfl⟩ := hrel
  by_cases hlt : k < n
  · obtain ⟨p, hpa, hpb, c0⟩ := SX.at1' (k := k) (by have := HN.out; omega)
    have hbk := (unhide HB) k hlt
    obtain ⟨x, hx⟩ : ∃ x, g X k = x := ⟨_, rfl⟩
    rw [hx] at hbk c0
    obtain ⟨b1, b2⟩ := hbk
    clear hx
    go_wp2
    go_roundw
    case rel => exact ⟨k + 1, by omega, by go_num, trivial⟩
    case measure => simp [intOf]; omega
  · obtain rfl : k = n := by omega
    go_wp2
    go_ret
    exact ⟨rfl, rfl⟩
/-- The length of a vector, rounded up. -/
def lenI (x y : Int) : Nat := upN (x * x + y * y).toNat
theorem sq_bd {x : Int} (h : -1073741824 ≤ x ∧ x ≤ 1073741824) : 0 ≤ x * x ∧ x * x ≤ 1152921504606846976 := by
  have h1 := mul_bd (a := x) (b := x) (A := 1073741824) (B := 1073741824) (by omega) (by omega)
  have h2 : 0 ≤ x * x := by
    rcases Int.lt_or_le x 0 with h | h
    · exact Int.mul_nonneg_of_nonpos_of_nonpos (by omega) (by omega)
    · exact Int.mul_nonneg h h
  omega
theorem blk2 {w : World} {g : Nat} {t : TypeId} {a b : Int} (h : Blk w g t #[.int .i64 a, .int .i64 b]) : Sl w w.heap.size 1 (some ⟨g, 0, none⟩) (rows [a, b]) := by
  refine ⟨by simp [rows], fun _ => ⟨_, rfl, h.lt, fun k r hr j u hu => ?_⟩⟩
  have hadd : (⟨g, 0, none⟩ : Addr).add (k * 1 + j) = ⟨g, k * 1 + j, none⟩ := by
    unfold Addr.add
    split <;> simp_all
  rw [hadd, h.cell]
  have := flat_get 1 (rows [a, b]) (by simp [rows]) k r hr j u hu
  have hf : (rows [a, b]).flatten = [.int .i64 a, .int .i64 b] := rfl
  rw [hf] at this
  simpa using this
theorem near2 {x y : Int} (hx : -1073741824 ≤ x ∧ x ≤ 1073741824) (hy : -1073741824 ≤ y ∧ y ≤ 1073741824) : ∀ i, i < 2 → -1073741824 ≤ g [x, y] i ∧ g [x, y] i ≤ 1073741824 := by
  intro i hi
  match i, hi with
  | 0, _ => exact hx
  | 1, _ => exact hy
set_option maxRecDepth 100000 in
theorem aboveM (x y : Int) (hx : -1073741824 ≤ x ∧ x ≤ 1073741824) (hy : -1073741824 ≤ y ∧ y ≤ 1073741824) (w : World) : Calls Try.prog 57 #[.int .i64 x, .int .i64 y] w fun e w' => e = .returned (.tuple #[.int .i64 (lenI x y), .nilIface]) ∧ Below w.heap.size w w' := by
  have hb0 := (Below.refl w.heap.size w).alloc (Nat.le_refl _) (.cells #[.int .i64 x, .int .i64 y] 3)
  have g0 := Blk.new w 3 #[.int .i64 x, .int .i64 y]
  have hne := fun W (g : Nat) (h : Blk W g 3 #[.int .i64 x, .int .i64 y]) => nearM [x, y] ⟨g, 0, none⟩ 2 2 W (blk2 h) rfl (by decide) (near2 hx hy)
  have s1 := sq_bd hx
  have s2 := sq_bd hy
  obtain ⟨N, hN⟩ : ∃ N : Nat, x * x + y * y = (N : Int) := ⟨(x * x + y * y).toNat, by omega⟩
  have hl : lenI x y = upN N := by unfold lenI; rw [hN]; rfl
  have hup := fun W => upM N (by omega) W
  have e1 : IntKind.i64.wrap (x * x) = x * x := IntWalk.i64_in _ (by omega)
  have e2 : IntKind.i64.wrap (y * y) = y * y := IntWalk.i64_in _ (by omega)
  have e3 : IntKind.i64.wrap (x * x + y * y) = (N : Int) := by rw [hN]; exact IntWalk.i64_in _ (by omega)
  rw [hl]
  have HNE := hide hne
  have HUP := hide hup
  clear hne hup hl
  go_enter Try.func57, Try.ntmps57
  go_wp2_with fail
  with_reducible refine ((unhide HNE) _ _ g0).mono ?_
  rintro e w1 ⟨rfl, rfl⟩
  go_wp2_with fail
  with_reducible refine ((unhide HUP) _).mono ?_
  rintro e w1 ⟨rfl, rfl⟩
  go_wp2
  go_ret2
  exact ⟨rfl, hb0⟩
set_option maxRecDepth 100000 in
theorem aboveR (x y : Int) (hx : -1073741824 ≤ x ∧ x ≤ 1073741824) (hy : -1073741824 ≤ y ∧ y ≤ 1073741824) (w : World) : Calls Try.prog 28 #[.int .i64 x, .int .i64 y] w fun e w' => e = .returned (.tuple #[.int .i64 (lenI x y), .int .i64 0]) ∧ Below w.heap.size w w' := by
  have hb0 := (Below.refl w.heap.size w).alloc (Nat.le_refl _) (.cells #[.int .i64 x, .int .i64 y] 3)
  have g0 := Blk.new w 3 #[.int .i64 x, .int .i64 y]
  have hne := fun W (g : Nat) (h : Blk W g 3 #[.int .i64 x, .int .i64 y]) => nearR [x, y] ⟨g, 0, none⟩ 2 2 W (blk2 h) rfl (by decide) (near2 hx hy)
  have s1 := sq_bd hx
  have s2 := sq_bd hy
  obtain ⟨N, hN⟩ : ∃ N : Nat, x * x + y * y = (N : Int) := ⟨(x * x + y * y).toNat, by omega⟩
  have hl : lenI x y = upN N := by unfold lenI; rw [hN]; rfl
  have hup := fun W => upR N (by omega) W
  have e1 : IntKind.i64.wrap (x * x) = x * x := IntWalk.i64_in _ (by omega)
  have e2 : IntKind.i64.wrap (y * y) = y * y := IntWalk.i64_in _ (by omega)
  have e3 : IntKind.i64.wrap (x * x + y * y) = (N : Int) := by rw [hN]; exact IntWalk.i64_in _ (by omega)
  rw [hl]
  have HNE := hide hne
  have HUP := hide hup
  clear hne hup hl
  go_enter Try.func28, Try.ntmps28
  go_wp2_with fail
  with_reducible refine ((unhide HNE) _ _ g0).mono ?_
  rintro e w1 ⟨rfl, rfl⟩
  go_wp2_with fail
  with_reducible refine ((unhide HUP) _).mono ?_
  rintro e w1 ⟨rfl, rfl⟩
  go_wp2
  go_ret2
  exact ⟨rfl, hb0⟩
end Go.Proofs.Ytmmplfokidnpnaa
