/- The walks of Steepest, and of the reference's. -/
import Derived.Test.YtpfkiohknpeifaaMcB
import Derived.OwnWalk
import Derived.Lib.MinMax
import Derived.BigRegion
namespace Go.Proofs.Ytpfkiohknpeifaa
open Go.RowKit
/-- d times a slope, rounded up. -/
def stE (X Y : List Int) (d : Int) (i : Nat) : Int := (d * (g Y i - g Y (i - 1)) + (g X i - g X (i - 1)) - 1).tdiv (g X i - g X (i - 1))
def stp (X Y : List Int) (d : Int) : Nat → Int
  | 0 => 0
  | i + 1 => if i = 0 then 0 else max (stp X Y d i) (stE X Y d i)
def clD (d : Int) : Int := min (max d 0) 2147483648
/-- d times the greatest slope, rounded up. -/
def stI (X Y : List Int) (d : Int) : Int := stp X Y (clD d) X.length
theorem clD_bd (d : Int) : 0 ≤ clD d ∧ clD d ≤ 2147483648 := by unfold clD; omega
theorem ceil_eq {A b : Int} (hA : 0 ≤ A) (hb : 0 < b) : (A + b - 1).tdiv b = A.tdiv b + if 0 < A.tmod b then 1 else 0 := by
  rw [Int.tdiv_eq_ediv_of_nonneg (by omega), Int.tdiv_eq_ediv_of_nonneg hA, Int.tmod_eq_emod_of_nonneg hA]
  have h1 := Int.mul_ediv_add_emod A b
  have h2 := Int.emod_nonneg A (show b ≠ 0 by omega)
  have h3 := Int.emod_lt_of_pos A hb
  have e : A + b - 1 = (A % b + b - 1) + b * (A / b) := by omega
  rw [e, Int.add_mul_ediv_left _ _ (by omega)]
  split
  · have e2 : A % b + b - 1 = (A % b - 1) + b * 1 := by omega
    rw [e2, Int.add_mul_ediv_left _ _ (by omega), Int.ediv_eq_zero_of_lt (by omega) (by omega)]
    omega
  · rw [Int.ediv_eq_zero_of_lt (by omega) (by omega)]
    omega
theorem st_facts {X Y : List Int} (ok : CvOk X Y) {d : Int} (hd : 0 ≤ d ∧ d ≤ 2147483648) {i : Nat} (hi : i < X.length) (hi1 : 1 ≤ i) :
    0 < g X i - g X (i - 1) ∧ g X i - g X (i - 1) ≤ 2147483648 ∧ 0 ≤ g Y i - g Y (i - 1) ∧ g Y i - g Y (i - 1) ≤ 2147483648 ∧
    0 ≤ d * (g Y i - g Y (i - 1)) ∧ d * (g Y i - g Y (i - 1)) ≤ 4611686018427387904 ∧ 0 ≤ stE X Y d i ∧ stE X Y d i ≤ 4611686020574871552 := by
  have b1 := ok.bd i hi
  have b2 := ok.bd (i - 1) (by omega)
  have b3 := ok.inc (i - 1) (by omega)
  rw [show i - 1 + 1 = i by omega] at b3
  have m1 := mul_bd (a := d) (b := g Y i - g Y (i - 1)) (A := 2147483648) (B := 2147483648) (by omega) (by omega)
  have m2 : 0 ≤ d * (g Y i - g Y (i - 1)) := Int.mul_nonneg (by omega) (by omega)
  have q : 0 ≤ stE X Y d i ∧ stE X Y d i ≤ 4611686020574871552 := by
    have hb : 0 < g X i - g X (i - 1) := by omega
    unfold stE
    generalize d * (g Y i - g Y (i - 1)) = A at *
    generalize g X i - g X (i - 1) = b at *
    refine tdiv_in hb (by omega) ?_
    have := Int.mul_le_mul_of_nonneg_left (show (1 : Int) ≤ b by omega) (show (0 : Int) ≤ 4611686020574871552 by omega)
    omega
  exact ⟨by omega, by omega, by omega, by omega, m2, by omega, q.1, q.2⟩
theorem stp_bd {X Y : List Int} (ok : CvOk X Y) {d : Int} (hd : 0 ≤ d ∧ d ≤ 2147483648) : ∀ i, i ≤ X.length → 0 ≤ stp X Y d i ∧ stp X Y d i ≤ 4611686020574871552
  | 0, _ => by unfold stp; omega
  | i + 1, h => by
    unfold stp
    split
    · omega
    · have h1 := stp_bd ok hd i (by omega)
      have h2 := st_facts ok hd (i := i) (by omega) (by omega)
      omega
set_option maxRecDepth 100000 in
set_option maxHeartbeats 1600000 in
theorem steepM (X Y : List Int) (ax ay : Addr) (n cX cY : Nat) (d : Int) (w : World) (SX : Sl w w.heap.size 1 (some ax) (rows X)) (SY : Sl w w.heap.size 1 (some ay) (rows Y)) (hn : n = X.length) (ok : CvOk X Y) (hc : cvCode X Y = 0) :
    Calls Try.prog 51 #[.agg #[.slice (some ax) n cX, .slice (some ay) n cY], .int .i64 d] w fun e w' => e = .returned (.tuple #[.int .i64 (stI X Y d), .nilIface]) ∧ Below w.heap.size w w' := by
  have hb0 := (Below.refl w.heap.size w).alloc (Nat.le_refl _) (.cells #[.slice (some ax) n cX, .slice (some ay) n cY] 24)
  have g0 := Blk.new w 24 #[.slice (some ax) n cX, .slice (some ay) n cY]
  have hck := fun (W : World) (h1 : Sl W W.heap.size 1 (some ax) (rows X)) (h2 : Sl W W.heap.size 1 (some ay) (rows Y)) => cvchk_walk X Y (some ax) (some ay) n n cX cY W h1 h2 hn (by rw [hn, ok.len])
  simp only [hc, errV_zero] at hck
  have HCK := hide hck
  clear hck hc
  have n2 : 2 ≤ n := by have := ok.two; omega
  have n32 : n ≤ 32 := by have := ok.most; omega
  have hD := clD_bd d
  have hcd : min (max d 0) 2147483648 = clD d := by unfold clD; omega
  have hv : stI X Y d = stp X Y (clD d) n := by unfold stI; rw [hn]
  rw [hv]
  obtain ⟨D, hDD⟩ : ∃ D, clD d = D := ⟨_, rfl⟩
  rw [hDD] at hD hcd ⊢
  have OK := hide ok
  have HN := Lib.hid hn
  clear ok hn hv hDD
  go_enter Try.func51, Try.ntmps51
  go_wp2_with fail
  with_reducible refine ((unhide HCK) _ ((SX.below hb0).more hb0.size) ((SY.below hb0).more hb0.size)).mono ?_
  rintro e w1 ⟨rfl, hbk⟩
  have g1 := g0.below hbk g0.lt
  have hb1 := hb0.trans (hbk.mono hb0.size)
  clear g0 hb0
  go_wp2
  go_loopw [7, 8] (fun o i wr => ∃ k : Nat, 1 ≤ k ∧ k ≤ n ∧ o = .int .i64 (stp X Y D k) ∧ i = .int .i64 k ∧ Blk wr w.heap.size 24 #[.slice (some ax) n cX, .slice (some ay) n cY] ∧ Below w.heap.size w wr) (fun _ i _ => n - (intOf i).toNat)
  case atStart => exact ⟨1, Nat.le_refl _, by omega, rfl, rfl, g1, hb1⟩
  case round =>
  clear g1 hb1
  obtain ⟨k, hk1, hkn, rfl, rfl, g1, hb⟩ := hrel
  obtain ⟨y0, y1⟩ := g1.c2
  have l1 := g1.lt
  have hs := hb.size
  have hsb := stp_bd (unhide OK) hD k (by have := HN.out; omega)
  by_cases hlt : k < n
  · have hkl : k < X.length := by have := HN.out; omega
    have hky : k < Y.length := by have := (unhide OK).len; omega
    obtain ⟨p1, pa1, pb1, c1⟩ := (SX.below hb).at1' (k := k) hkl
    obtain ⟨p2, pa2, pb2, c2⟩ := (SX.below hb).at1' (k := k - 1) (by omega)
    obtain ⟨p3, pa3, pb3, c3⟩ := (SY.below hb).at1' (k := k) hky
    obtain ⟨p4, pa4, pb4, c4⟩ := (SY.below hb).at1' (k := k - 1) (by omega)
    have q1 : p1.block < wr.heap.size := by omega
    have q2 : p2.block < wr.heap.size := by omega
    have q3 : p3.block < wr.heap.size := by omega
    have q4 : p4.block < wr.heap.size := by omega
    obtain ⟨f1, f2, f3, f4, f5, f6, f7, f8⟩ := st_facts (unhide OK) hD hkl hk1
    have hst : stp X Y D (k + 1) = max (stp X Y D k) (stE X Y D k) := by
      show (if k = 0 then 0 else max (stp X Y D k) (stE X Y D k)) = _
      rw [if_neg (by omega)]
    have hE : stE X Y D k = (D * (g Y k - g Y (k - 1)) + (g X k - g X (k - 1)) - 1).tdiv (g X k - g X (k - 1)) := rfl
    have hCE := ceil_eq (A := D * (g Y k - g Y (k - 1))) (b := g X k - g X (k - 1)) f5 f1
    rw [← hE] at hCE
    have bx1 := (unhide OK).bd k hkl
    have bx2 := (unhide OK).bd (k - 1) (by omega)
    obtain ⟨E, hEE⟩ : ∃ E, stE X Y D k = E := ⟨_, rfl⟩
    rw [hEE] at hst hE hCE f7 f8
    obtain ⟨O, hO⟩ : ∃ O, stp X Y D k = O := ⟨_, rfl⟩
    rw [hO] at hst hsb ⊢
    obtain ⟨a1, ha1⟩ : ∃ x, g X k = x := ⟨_, rfl⟩
    obtain ⟨a2, ha2⟩ : ∃ x, g X (k - 1) = x := ⟨_, rfl⟩
    obtain ⟨a3, ha3⟩ : ∃ x, g Y k = x := ⟨_, rfl⟩
    obtain ⟨a4, ha4⟩ : ∃ x, g Y (k - 1) = x := ⟨_, rfl⟩
    simp only [ha1, ha2, ha3, ha4] at c1 c2 c3 c4 f1 f2 f3 f4 f5 f6 hE hCE bx1 bx2
    have jl : ((k : Int) - 1).toNat = k - 1 := by omega
    have hj0 : 0 < n := by omega
    have hj2 : (0 : Int) ≤ (k : Int) - 1 := by omega
    have hj3 : (k : Int) - 1 < (n : Int) := by omega
    have hj4 : IntKind.i64.wrap ((k : Int) - 1) = (k : Int) - 1 := IntWalk.i64_in _ (by omega)
    have hj5 : (k : Int) < (n : Int) := by omega
    have hj6 : (1 : Int) ≤ (k : Int) := by omega
    have e1 : IntKind.i64.wrap (a1 - a2) = a1 - a2 := IntWalk.i64_in _ (by omega)
    have e2 : IntKind.i64.wrap (a3 - a4) = a3 - a4 := IntWalk.i64_in _ (by omega)
    have e3 : IntKind.i64.wrap (D * (a3 - a4)) = D * (a3 - a4) := IntWalk.i64_in _ (by omega)
    have e4 : IntKind.i64.wrap (D * (a3 - a4) + (a1 - a2)) = D * (a3 - a4) + (a1 - a2) := IntWalk.i64_in _ (by omega)
    have e5 : IntKind.i64.wrap (D * (a3 - a4) + (a1 - a2) - 1) = D * (a3 - a4) + (a1 - a2) - 1 := IntWalk.i64_in _ (by omega)
    have e6 : IntKind.i64.wrap E = E := IntWalk.i64_in _ (by omega)
    have e7 : wrap64 E = E := by unfold wrap64; omega
    have hne : ¬ a1 - a2 = 0 := by omega
    have hne2 : ¬ a1 - a2 = -1 := by omega
    have HST := Lib.hid hst
    clear hst hEE hO ha1 ha2 ha3 ha4
    have hE2 := hE.symm
    clear hE hCE
    go_wp2
    go_quiet (fail)
    go_wp2
    go_roundw
    case rel => exact ⟨k + 1, by omega, by omega, by rw [HST.out], by go_num, g1.drewN nq, below_drewN hb nq⟩
    case measure => simp [intOf]; omega
  · obtain rfl : k = n := by omega
    go_wp2
    go_ret2
    exact ⟨rfl, hb⟩
end Go.Proofs.Ytpfkiohknpeifaa
