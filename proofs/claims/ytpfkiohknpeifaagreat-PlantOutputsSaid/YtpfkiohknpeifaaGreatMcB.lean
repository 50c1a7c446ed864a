/- The walks of the curve's Check and the reference's. The walks of sort.SearchInts, of a curve's value, and of the reference's. The walks of a curve's At, and of the reference's. The walks of the check of a curve of currents, and of the reference's. The configuration of a machine: what is wrong with it; the walks of its check, and of the reference's. -/
import Derived.Test.YtpfkiohknpeifaaGreatMcA
import Derived.BigRegion
import Derived.StillTailTactics
namespace Go.Proofs.YtpfkiohknpeifaaGreat
open Go.RowKit
theorem cvCode_shape {X Y : List Int} (h : X.length ≠ Y.length) : cvCode X Y = 11 := by unfold cvCode; rw [if_pos h]
theorem cvCode_large {X Y : List Int} (h : X.length = Y.length) (h2 : 32 < X.length) : cvCode X Y = 4 := by unfold cvCode; rw [if_neg (by omega), if_pos h2]
theorem cvCode_few {X Y : List Int} (h : X.length = Y.length) (h2 : X.length < 2) : cvCode X Y = 11 := by unfold cvCode; rw [if_neg (by omega), if_neg (by omega), if_pos h2]
theorem cvCode_fe {X Y : List Int} (h : X.length = Y.length) (h2 : ¬ 32 < X.length) (h3 : ¬ X.length < 2) : cvCode X Y = fe (cvE X Y) X.length := by unfold cvCode; rw [if_neg (by omega), if_neg (by omega), if_neg (by omega)]
set_option maxRecDepth 100000 in
set_option maxHeartbeats 1600000 in
theorem cvchk_walk (X Y : List Int) (AX AY : Option Addr) (n m cX cY : Nat) (w : World) (SX : Sl w w.heap.size 1 AX (rows X)) (SY : Sl w w.heap.size 1 AY (rows Y)) (hn : n = X.length) (hm : m = Y.length) :
    Calls Tryz.prog 124 #[.agg #[.slice AX n cX, .slice AY m cY]] w fun e w' => e = .returned (errV (cvCode X Y)) ∧ Below w.heap.size w w' := by
  have HX := Lib.hid hn
  have HY := Lib.hid hm
  clear hn hm
  have hb0 := (Below.refl w.heap.size w).alloc (Nat.le_refl _) (.cells #[.slice AX n cX, .slice AY m cY] 24)
  have g0 := Blk.new w 24 #[.slice AX n cX, .slice AY m cY]
  by_cases h1 : n = m
  case neg =>
    have hc := Lib.hid (cvCode_shape (X := X) (Y := Y) (by rw [← HX.out, ← HY.out]; exact h1))
    go_enter Tryz.func124, Tryz.ntmps124
    go_wp2
    go_ret
    exact ⟨by rw [hc.out]; rfl, hb0⟩
  subst h1
  by_cases h2 : 32 < n
  · have hc := Lib.hid (cvCode_large (X := X) (Y := Y) (by rw [← HX.out, ← HY.out]) (by rw [← HX.out]; exact h2))
    go_enter Tryz.func124, Tryz.ntmps124
    go_wp2
    go_ret
    exact ⟨by rw [hc.out]; rfl, hb0⟩
  by_cases h3 : n < 2
  · have hc := Lib.hid (cvCode_few (X := X) (Y := Y) (by rw [← HX.out, ← HY.out]) (by rw [← HX.out]; exact h3))
    go_enter Tryz.func124, Tryz.ntmps124
    go_wp2
    go_ret
    exact ⟨by rw [hc.out]; rfl, hb0⟩
  have HC := Lib.hid (cvCode_fe (X := X) (Y := Y) (by rw [← HX.out, ← HY.out]) (by rw [← HX.out]; exact h2) (by rw [← HX.out]; exact h3))
  obtain ⟨ax, rfl⟩ := SX.ptr (by rw [← HX.out]; omega)
  obtain ⟨ay, rfl⟩ := SY.ptr (by rw [← HY.out]; omega)
  go_enter Tryz.func124, Tryz.ntmps124
  go_wp2
  go_loopw [28] (fun i wr => ∃ k : Nat, k ≤ n ∧ i = .int .i64 k ∧ Hid (∀ j, j < k → cvE X Y j = 0) ∧ Blk wr w.heap.size 24 #[.slice (some ax) n cX, .slice (some ay) n cY] ∧ Below w.heap.size w wr) (fun i _ => n - (intOf i).toNat)
  case atStart => exact ⟨0, Nat.zero_le _, rfl, (fun j h => by omega), g0, hb0⟩
  case round =>
    clear g0 hb0
    obtain ⟨k, hk, rfl, hg, g1, hb⟩ := hrel
    have hsz := g1.lt
    obtain ⟨y0, y1⟩ := g1.c2
    by_cases hlt : k < n
    · have hkl : k < X.length := by have := HX.out; omega
      obtain ⟨p, hpa, hpb, c0⟩ := (SX.below hb).at1' hkl
      obtain ⟨q, hqa, hqb, d0⟩ := (SY.below hb).at1' (k := k) (by have := HY.out; omega)
      have hpb1 : p.block < wr.heap.size := by omega
      have hqb1 : q.block < wr.heap.size := by omega
      by_cases hr : g X k < -1073741824 ∨ 1073741824 < g X k ∨ g Y k < -1073741824 ∨ 1073741824 < g Y k
      · have he : cvE X Y k = 3 := by unfold cvE; rw [if_pos hr]
        have HE := Lib.hid (show cvCode X Y = 3 by rw [HC.out, fe_hit hkl hg.out (by rw [he]; decide), he])
        clear he
        go_wp2
        all_goals first
          | (go_ret
             exact ⟨by rw [HE.out]; rfl, by repeat (first | exact hb | refine Below.alloc ?_ (by first | omega | (simp; omega)) _)⟩)
          | omega
      · have hr1 : ¬ g X k < -1073741824 := by omega
        have hr2 : ¬ 1073741824 < g X k := by omega
        have hr3 : ¬ g Y k < -1073741824 := by omega
        have hr4 : ¬ 1073741824 < g Y k := by omega
        by_cases hk0 : 0 < k
        · obtain ⟨p', hpa', hpb', c1⟩ := (SX.below hb).at1' (k := k - 1) (by omega)
          obtain ⟨q', hqa', hqb', d1⟩ := (SY.below hb).at1' (k := k - 1) (by have := HY.out; omega)
          have hpb1' : p'.block < wr.heap.size := by omega
          have hqb1' : q'.block < wr.heap.size := by omega
          have ek : ((k : Int) - 1).toNat = k - 1 := by omega
          rcases Int.lt_or_le (g X (k - 1)) (g X k) with hx | hx
          · have dx : decide (g X k ≤ g X (k - 1)) = false := decide_eq_false (by omega)
            rcases Int.lt_or_le (g Y k) (g Y (k - 1)) with hy | hy
            · have dy : decide (g Y k < g Y (k - 1)) = true := decide_eq_true hy
              have he : cvE X Y k = 26 := by unfold cvE; rw [if_neg hr, if_pos (by omega)]
              have HE := Lib.hid (show cvCode X Y = 26 by rw [HC.out, fe_hit hkl hg.out (by rw [he]; decide), he])
              clear he hr
              go_wp2
              go_ret
              exact ⟨by rw [HE.out]; rfl, by repeat (first | exact hb | refine Below.alloc ?_ (by first | omega | (simp; omega)) _)⟩
            · have dy : decide (g Y k < g Y (k - 1)) = false := decide_eq_false (by omega)
              have HE := Lib.hid (show cvE X Y k = 0 by unfold cvE; rw [if_neg hr, if_neg (by omega)])
              clear hr
              go_wp2
              go_roundw
              case rel => exact ⟨k + 1, by omega, by go_num, (fun j hj => by
                by_cases hjk : j = k
                · subst hjk; exact HE.out
                · exact hg.out j (by omega)), by repeat (first | exact g1 | refine Blk.alloc ?_ _), by repeat (first | exact hb | refine Below.alloc ?_ (by first | omega | (simp; omega)) _)⟩
              case measure => simp [intOf]; omega
          · have dx : decide (g X k ≤ g X (k - 1)) = true := decide_eq_true (by omega)
            have he : cvE X Y k = 26 := by unfold cvE; rw [if_neg hr, if_pos (by omega)]
            have HE := Lib.hid (show cvCode X Y = 26 by rw [HC.out, fe_hit hkl hg.out (by rw [he]; decide), he])
            clear he hr
            go_wp2
            go_ret
            exact ⟨by rw [HE.out]; rfl, by repeat (first | exact hb | refine Below.alloc ?_ (by first | omega | (simp; omega)) _)⟩
        · obtain rfl : k = 0 := by omega
          have HE := Lib.hid (show cvE X Y 0 = 0 by unfold cvE; rw [if_neg hr, if_neg (by omega)])
          clear hr
          go_wp2
          go_roundw
          case rel => exact ⟨0 + 1, by omega, by go_num, (fun j hj => by
            obtain rfl : j = 0 := by omega
            exact HE.out), by repeat (first | exact g1 | refine Blk.alloc ?_ _), by repeat (first | exact hb | refine Below.alloc ?_ (by first | omega | (simp; omega)) _)⟩
          case measure => simp [intOf]; omega
    · obtain rfl : k = n := by omega
      have HE := Lib.hid (show cvCode X Y = 0 by rw [HC.out]; exact fe_none fun i hi => hg.out i (by have := HX.out; omega))
      go_wp2
      go_ret
      exact ⟨by rw [HE.out]; rfl, hb⟩
set_option maxRecDepth 100000 in
set_option maxHeartbeats 1600000 in
theorem rcvchk_walk (X Y : List Int) (AX AY : Option Addr) (n m cX cY : Nat) (w : World) (SX : Sl w w.heap.size 1 AX (rows X)) (SY : Sl w w.heap.size 1 AY (rows Y)) (hn : n = X.length) (hm : m = Y.length) :
    Calls Tryz.prog 121 #[.agg #[.slice AX n cX, .slice AY m cY]] w fun e w' => e = .returned (.int .i64 (cvCode X Y)) ∧ Below w.heap.size w w' := by
  have HX := Lib.hid hn
  have HY := Lib.hid hm
  clear hn hm
  have hb0 := (Below.refl w.heap.size w).alloc (Nat.le_refl _) (.cells #[.slice AX n cX, .slice AY m cY] 24)
  have g0 := Blk.new w 24 #[.slice AX n cX, .slice AY m cY]
  by_cases h1 : n = m
  case neg =>
    have hc := Lib.hid (cvCode_shape (X := X) (Y := Y) (by rw [← HX.out, ← HY.out]; exact h1))
    go_enter Tryz.func121, Tryz.ntmps121
    go_wp2
    go_ret
    exact ⟨by rw [hc.out]; rfl, hb0⟩
  subst h1
  by_cases h2 : 32 < n
  · have hc := Lib.hid (cvCode_large (X := X) (Y := Y) (by rw [← HX.out, ← HY.out]) (by rw [← HX.out]; exact h2))
    go_enter Tryz.func121, Tryz.ntmps121
    go_wp2
    go_ret
    exact ⟨by rw [hc.out]; rfl, hb0⟩
  by_cases h3 : n < 2
  · have hc := Lib.hid (cvCode_few (X := X) (Y := Y) (by rw [← HX.out, ← HY.out]) (by rw [← HX.out]; exact h3))
    go_enter Tryz.func121, Tryz.ntmps121
    go_wp2
    go_ret
    exact ⟨by rw [hc.out]; rfl, hb0⟩
  have HC := Lib.hid (cvCode_fe (X := X) (Y := Y) (by rw [← HX.out, ← HY.out]) (by rw [← HX.out]; exact h2) (by rw [← HX.out]; exact h3))
  obtain ⟨ax, rfl⟩ := SX.ptr (by rw [← HX.out]; omega)
  obtain ⟨ay, rfl⟩ := SY.ptr (by rw [← HY.out]; omega)
  go_enter Tryz.func121, Tryz.ntmps121
  go_wp2
  go_loopw [3] (fun i wr => ∃ k : Nat, k ≤ n ∧ i = .int .i64 k ∧ Hid (∀ j, j < k → cvE X Y j = 0) ∧ Blk wr w.heap.size 24 #[.slice (some ax) n cX, .slice (some ay) n cY] ∧ Below w.heap.size w wr) (fun i _ => n - (intOf i).toNat)
  case atStart => exact ⟨0, Nat.zero_le _, rfl, (fun j h => by omega), g0, hb0⟩
  case round =>
    clear g0 hb0
    obtain ⟨k, hk, rfl, hg, g1, hb⟩ := hrel
    have hsz := g1.lt
    obtain ⟨y0, y1⟩ := g1.c2
    by_cases hlt : k < n
    · have hkl : k < X.length := by have := HX.out; omega
      obtain ⟨p, hpa, hpb, c0⟩ := (SX.below hb).at1' hkl
      obtain ⟨q, hqa, hqb, d0⟩ := (SY.below hb).at1' (k := k) (by have := HY.out; omega)
      have hpb1 : p.block < wr.heap.size := by omega
      have hqb1 : q.block < wr.heap.size := by omega
      by_cases hr : g X k < -1073741824 ∨ 1073741824 < g X k ∨ g Y k < -1073741824 ∨ 1073741824 < g Y k
      · have he : cvE X Y k = 3 := by unfold cvE; rw [if_pos hr]
        have HE := Lib.hid (show cvCode X Y = 3 by rw [HC.out, fe_hit hkl hg.out (by rw [he]; decide), he])
        clear he
        go_wp2
        all_goals first
          | (go_ret
             exact ⟨by rw [HE.out]; rfl, by repeat (first | exact hb | refine Below.alloc ?_ (by first | omega | (simp; omega)) _)⟩)
          | omega
      · have hr1 : ¬ g X k < -1073741824 := by omega
        have hr2 : ¬ 1073741824 < g X k := by omega
        have hr3 : ¬ g Y k < -1073741824 := by omega
        have hr4 : ¬ 1073741824 < g Y k := by omega
        by_cases hk0 : 0 < k
        · obtain ⟨p', hpa', hpb', c1⟩ := (SX.below hb).at1' (k := k - 1) (by omega)
          obtain ⟨q', hqa', hqb', d1⟩ := (SY.below hb).at1' (k := k - 1) (by have := HY.out; omega)
          have hpb1' : p'.block < wr.heap.size := by omega
          have hqb1' : q'.block < wr.heap.size := by omega
          have ek : ((k : Int) - 1).toNat = k - 1 := by omega
          rcases Int.lt_or_le (g X (k - 1)) (g X k) with hx | hx
          · have dx : decide (g X k ≤ g X (k - 1)) = false := decide_eq_false (by omega)
            rcases Int.lt_or_le (g Y k) (g Y (k - 1)) with hy | hy
            · have dy : decide (g Y k < g Y (k - 1)) = true := decide_eq_true hy
              have he : cvE X Y k = 26 := by unfold cvE; rw [if_neg hr, if_pos (by omega)]
              have HE := Lib.hid (show cvCode X Y = 26 by rw [HC.out, fe_hit hkl hg.out (by rw [he]; decide), he])
              clear he hr
              go_wp2
              go_quiet (fail)
              go_wp2
              go_ret
              exact ⟨by rw [HE.out]; rfl, below_drewN hb nq⟩
            · have dy : decide (g Y k < g Y (k - 1)) = false := decide_eq_false (by omega)
              have HE := Lib.hid (show cvE X Y k = 0 by unfold cvE; rw [if_neg hr, if_neg (by omega)])
              clear hr
              go_wp2
              go_quiet (fail)
              go_wp2
              go_roundw
              case rel => exact ⟨k + 1, by omega, by go_num, (fun j hj => by
                by_cases hjk : j = k
                · subst hjk; exact HE.out
                · exact hg.out j (by omega)), g1.drewN nq, below_drewN hb nq⟩
              case measure => simp [intOf]; omega
          · have dx : decide (g X k ≤ g X (k - 1)) = true := decide_eq_true (by omega)
            have he : cvE X Y k = 26 := by unfold cvE; rw [if_neg hr, if_pos (by omega)]
            have HE := Lib.hid (show cvCode X Y = 26 by rw [HC.out, fe_hit hkl hg.out (by rw [he]; decide), he])
            clear he hr
            go_wp2
            go_quiet (fail)
            go_wp2
            go_ret
            exact ⟨by rw [HE.out]; rfl, below_drewN hb nq⟩
        · obtain rfl : k = 0 := by omega
          have HE := Lib.hid (show cvE X Y 0 = 0 by unfold cvE; rw [if_neg hr, if_neg (by omega)])
          clear hr
          go_wp2
          go_quiet (fail)
          go_wp2
          go_roundw
          case rel => exact ⟨0 + 1, by omega, by go_num, (fun j hj => by
            obtain rfl : j = 0 := by omega
            exact HE.out), g1.drewN nq, below_drewN hb nq⟩
          case measure => simp [intOf]; omega
    · obtain rfl : k = n := by omega
      have HE := Lib.hid (show cvCode X Y = 0 by rw [HC.out]; exact fe_none fun i hi => hg.out i (by have := HX.out; omega))
      go_wp2
      go_ret
      exact ⟨by rw [HE.out]; rfl, hb⟩
end Go.Proofs.YtpfkiohknpeifaaGreat

namespace Go.Proofs.YtpfkiohknpeifaaGreat
open Go.RowKit

set_option maxRecDepth 100000 in
set_option maxHeartbeats 1600000 in
/-- The least index from which on the numbers of a rising list are at least v. -/
theorem search_walk (X : List Int) (ax : Addr) (n c : Nat) (v : Int) (w : World) (SX : Sl w w.heap.size 1 (some ax) (rows X)) (hn : n = X.length) (hm : n ≤ 1000000) (hinc : ∀ i j, i ≤ j → j < X.length → g X i ≤ g X j) :
    Calls Tryz.prog 154 #[.slice (some ax) n c, .int .i64 v] w fun e w' => ∃ k : Nat, e = .returned (.int .i64 k) ∧ k ≤ n ∧ (∀ i, i < k → g X i < v) ∧ (∀ i, k ≤ i → i < n → v ≤ g X i) ∧ Below w.heap.size w w' := by
  have HN := Lib.hid hn
  have HI := Lib.hid hinc
  clear hn hinc
  have hmf : ∀ (fn : Fn) (first cap : Array Value) (w : World), (Instr.makeFunc fn first cap).run Tryz.prog w = .ok (.func fn first cap) w := fun _ _ _ _ => rfl
  have g0 := (Blk.new w 22 #[.slice (some ax) n c]).alloc (.cells #[.int .i64 v] 3)
  have g1 := Blk.new' (w := w.alloc (.cells #[.slice (some ax) n c] 22)) (t := 3) (cs := #[.int .i64 v]) (g := w.heap.size + 1) (by simp)
  have hb0 := ((Below.refl w.heap.size w).alloc (Nat.le_refl _) (.cells #[.slice (some ax) n c] 22)).alloc (by simp) (.cells #[.int .i64 v] 3)
  go_enter Tryz.func154, Tryz.ntmps154
  go_wp2
  go_loopw [5, 6] (fun i j wr => ∃ a b : Nat, a ≤ b ∧ b ≤ n ∧ i = .int .i64 a ∧ j = .int .i64 b ∧ Hid (∀ i, i < a → g X i < v) ∧ Hid (∀ i, b ≤ i → i < n → v ≤ g X i) ∧ Blk wr w.heap.size 22 #[.slice (some ax) n c] ∧ Blk wr (w.heap.size + 1) 3 #[.int .i64 v] ∧ Below w.heap.size w wr) (fun i j _ => (intOf j).toNat - (intOf i).toNat)
  case atStart => exact ⟨0, n, Nat.zero_le _, Nat.le_refl _, rfl, rfl, (fun i h => by omega), (fun i h h2 => by omega), g0, g1, hb0⟩
  case round =>
  clear g0 g1 hb0
  obtain ⟨a, b, hab, hbn, rfl, rfl, hlo, hhi, g0, g1, hb⟩ := hrel
  by_cases hlt : a < b
  · obtain ⟨m, hm2⟩ : ∃ m : Nat, (a + b) / 2 = m := ⟨_, rfl⟩
    have hma : a ≤ m := by omega
    have hmb : m < b := by omega
    obtain ⟨p, hpa, hpb, c0⟩ := (SX.below hb).at1' (k := m) (by have := HN.out; omega)
    have hs := hb.size
    have hpb1 : p.block < wr.heap.size := by omega
    have y0 := g0.c1
    have y1 := g1.c1
    have l0 := g0.lt
    have l1 := g1.lt
    have em : ((a : Int) + b) / 2 = (m : Int) := by omega
    have HM := Lib.hid hm2
    clear hm2
    rcases Int.lt_or_le (g X m) v with hv | hv
    · have dv : decide (v ≤ g X m) = false := decide_eq_false (by omega)
      go_wp2
      go_quiet (fail)
      go_wp2
      go_roundw
      case rel => exact ⟨m + 1, b, by omega, hbn, by go_num, rfl, (fun i h => by
        have h1 := HI.out i m (by omega) (by have := HN.out; omega)
        omega), hhi, g0.drewN nq, g1.drewN nq, below_drewN hb nq⟩
      case measure => simp [intOf]; omega
    · have dv : decide (v ≤ g X m) = true := decide_eq_true hv
      go_wp2
      go_quiet (fail)
      go_wp2
      go_roundw
      case rel => exact ⟨a, m, by omega, by omega, rfl, rfl, hlo, (fun i h h2 => by
        have h1 := HI.out m i (by omega) (by have := HN.out; omega)
        omega), g0.drewN nq, g1.drewN nq, below_drewN hb nq⟩
      case measure => simp [intOf]; omega
  · obtain rfl : a = b := by omega
    go_wp2
    go_ret
    exact ⟨a, rfl, hbn, hlo.out, hhi.out, hb⟩
theorem seg_facts {X Y : List Int} (ok : CvOk X Y) {i : Nat} {x : Int} (hi : i < X.length) (hi1 : 1 ≤ i) (h1 : g X (i - 1) ≤ x) (h2 : x ≤ g X i) :
    0 < g X i - g X (i - 1) ∧ g X i - g X (i - 1) ≤ 2147483648 ∧ 0 ≤ g Y i - g Y (i - 1) ∧ g Y i - g Y (i - 1) ≤ 2147483648 ∧ 0 ≤ x - g X (i - 1) ∧ x - g X (i - 1) ≤ 2147483648 ∧
    (-2305843009213693952 ≤ g Y (i - 1) * (g X i - g X (i - 1)) ∧ g Y (i - 1) * (g X i - g X (i - 1)) ≤ 2305843009213693952) ∧
    (-4611686018427387904 ≤ (g Y i - g Y (i - 1)) * (x - g X (i - 1)) ∧ (g Y i - g Y (i - 1)) * (x - g X (i - 1)) ≤ 4611686018427387904) ∧
    -4611686018427387904 ≤ segN X Y i x ∧ segN X Y i x ≤ 4611686018427387904 := by
  have b1 := ok.bd i hi
  have b2 := ok.bd (i - 1) (by omega)
  have b3 := ok.inc (i - 1) (by omega)
  rw [show i - 1 + 1 = i by omega] at b3
  have b4 := segN_bd ok hi hi1 h1 h2
  have m1 := mul_bd (a := g Y (i - 1)) (b := g X i - g X (i - 1)) (A := 1073741824) (B := 2147483648) (by omega) (by omega)
  have m2 := mul_bd (a := g Y i - g Y (i - 1)) (b := x - g X (i - 1)) (A := 2147483648) (B := 2147483648) (by omega) (by omega)
  have m3 := mul_bd (a := g Y i) (b := g X i - g X (i - 1)) (A := 1073741824) (B := 2147483648) (by omega) (by omega)
  refine ⟨by omega, by omega, by omega, by omega, by omega, by omega, by omega, by omega, by omega, by omega⟩
set_option maxRecDepth 100000 in
set_option maxHeartbeats 1600000 in
theorem valueM (X Y : List Int) (ax ay : Addr) (n cX cY : Nat) (x : Int) (hx : -4294967296 ≤ x ∧ x ≤ 4294967296) (w : World) (SX : Sl w w.heap.size 1 (some ax) (rows X)) (SY : Sl w w.heap.size 1 (some ay) (rows Y)) (hn : n = X.length) (ok : CvOk X Y) :
    Calls Tryz.prog 150 #[.agg #[.slice (some ax) n cX, .slice (some ay) n cY], .int .i64 x] w fun e w' => ∃ num den : Int, e = .returned (.tuple #[.int .i64 num, .int .i64 den]) ∧ 0 < den ∧ num.tdiv den = cvAt X Y x ∧ -4611686018427387904 ≤ num ∧ num ≤ 4611686018427387904 ∧ Below w.heap.size w w' := by
  have HN := Lib.hid hn
  have two := ok.two
  have most := ok.most
  rw [← hn] at two most
  clear hn
  have HO := Lib.hid ok
  have hl : n - 1 < X.length := by have := HN.out; omega
  have hlY : Y.length = n := by rw [← HO.out.len]; exact HN.out.symm
  have HLY := Lib.hid hlY
  clear ok hlY
  obtain ⟨hx1, hx2⟩ := hx
  have hb0 := (Below.refl w.heap.size w).alloc (Nat.le_refl _) (.cells #[.slice (some ax) n cX, .slice (some ay) n cY] 24)
  have g0 := Blk.new w 24 #[.slice (some ax) n cX, .slice (some ay) n cY]
  obtain ⟨pf, pfa, pfb, f0⟩ := SX.at1' (k := 0) (by have := HN.out; omega)
  obtain ⟨pl, pla, plb, z0⟩ := SX.at1' (k := n - 1) hl
  obtain ⟨qf, qfa, qfb, f1⟩ := SY.at1' (k := 0) (by have := HLY.out; omega)
  obtain ⟨ql, qla, qlb, z1⟩ := SY.at1' (k := n - 1) (by have := HLY.out; omega)
  have il : ((n : Int) - 1).toNat = n - 1 := by omega
  have bf := HO.out.bd 0 (by have := HN.out; omega)
  have bl := HO.out.bd (n - 1) hl
  obtain ⟨bf1, bf2, bf3, bf4⟩ := bf
  obtain ⟨bl1, bl2, bl3, bl4⟩ := bl
  by_cases h1 : x ≤ g X 0
  · have HA := Lib.hid (at_first (Y := Y) h1)
    go_enter Tryz.func150, Tryz.ntmps150
    go_wp2
    go_ret2
    exact ⟨g Y 0, 1, rfl, by omega, by rw [HA.out, Int.tdiv_one], by omega, by omega, hb0⟩
  by_cases h2 : g X (n - 1) ≤ x
  · have HA := Lib.hid (show cvAt X Y x = g Y (n - 1) by
      have := at_last HO.out (x := x) (by rw [← HN.out]; exact h2)
      rw [this, ← HN.out])
    go_enter Tryz.func150, Tryz.ntmps150
    go_wp2
    go_ret2
    exact ⟨g Y (n - 1), 1, rfl, by omega, by rw [HA.out, Int.tdiv_one], by omega, by omega, hb0⟩
  · have hse := fun (W : World) (h : Sl W W.heap.size 1 (some ax) (rows X)) => search_walk X ax n cX (x + 1) W h HN.out (by omega) (fun i j hij hj => (mono_le HO.out hij hj).1)
    have HSE := hide hse
    clear hse
    have sx0 := (SX.alloc (Nat.le_refl _) (.cells #[.slice (some ax) n cX, .slice (some ay) n cY] 24)).more (show w.heap.size ≤ (w.alloc (.cells #[.slice (some ax) n cX, .slice (some ay) n cY] 24)).heap.size by simp)
    go_enter Tryz.func150, Tryz.ntmps150
    go_wp2_with fail
    refine ((unhide HSE) _ sx0).mono ?_
    rintro e w1 ⟨k, rfl, hkn, hlo, hhi, hb1⟩
    have HB := hb0.trans (hb1.mono hb0.size)
    have g1 := g0.below hb1 g0.lt
    have l1 := g1.lt
    obtain ⟨y0, y1⟩ := g1.c2
    have hk1 : 1 ≤ k := by
      by_cases h : k = 0
      · have := hhi 0 (by omega) (by omega); omega
      · omega
    have hk2 : k < n := by
      by_cases h : k = n
      · have := hlo (n - 1) (by omega); omega
      · omega
    have h3 := hlo (k - 1) (by omega)
    have h4 := hhi k (Nat.le_refl _) hk2
    have h3' : g X (k - 1) ≤ x := by omega
    have h4' : x < g X k := by omega
    clear hlo hhi hb1 g0 hb0 sx0 HSE h3 h4
    obtain ⟨pk, pka, pkb, k0⟩ := (SX.below HB).at1' (k := k) (by have := HN.out; omega)
    obtain ⟨pj, pja, pjb, j0⟩ := (SX.below HB).at1' (k := k - 1) (by have := HN.out; omega)
    obtain ⟨qk, qka, qkb, k1⟩ := (SY.below HB).at1' (k := k) (by have := HLY.out; omega)
    obtain ⟨qj, qja, qjb, j1⟩ := (SY.below HB).at1' (k := k - 1) (by have := HLY.out; omega)
    have hs := HB.size
    have hpk : pk.block < w1.heap.size := by omega
    have hpj : pj.block < w1.heap.size := by omega
    have hqk : qk.block < w1.heap.size := by omega
    have hqj : qj.block < w1.heap.size := by omega
    have ik : ((k : Int) - 1).toNat = k - 1 := by omega
    obtain ⟨s1, s2, s3, s4, s5, s6, ⟨s7, s8⟩, ⟨s9, sa⟩, sb, sc⟩ := seg_facts HO.out (i := k) (x := x) (by have := HN.out; omega) (by omega) (by omega) (by omega)
    have hsg : cvAt X Y x = seg X Y k x := at_from HO.out (by have := HN.out; omega) hk1 h3' h4'
    have hsn : segN X Y k x = g Y (k - 1) * (g X k - g X (k - 1)) + (g Y k - g Y (k - 1)) * (x - g X (k - 1)) := rfl
    have b1 := HO.out.bd k (by have := HN.out; omega)
    have b2 := HO.out.bd (k - 1) (by have := HN.out; omega)
    have hsd : seg X Y k x = (segN X Y k x).tdiv (g X k - g X (k - 1)) := rfl
    rw [hsd] at hsg
    obtain ⟨N, hN⟩ : ∃ N, segN X Y k x = N := ⟨_, rfl⟩
    obtain ⟨xk, hxk⟩ : ∃ N, g X k = N := ⟨_, rfl⟩
    obtain ⟨xj, hxj⟩ : ∃ N, g X (k - 1) = N := ⟨_, rfl⟩
    obtain ⟨yk, hyk⟩ : ∃ N, g Y k = N := ⟨_, rfl⟩
    obtain ⟨yj, hyj⟩ : ∃ N, g Y (k - 1) = N := ⟨_, rfl⟩
    rw [hN] at hsn hsg sb sc
    simp only [hxk, hxj, hyk, hyj] at k0 k1 j0 j1 s1 s2 s3 s4 s5 s6 s7 s8 s9 sa hsn hsg b1 b2 h3' h4'
    obtain ⟨b11, b12, b13, b14⟩ := b1
    obtain ⟨b21, b22, b23, b24⟩ := b2
    have e1 : IntKind.i64.wrap (yj * (xk - xj)) = yj * (xk - xj) := IntWalk.i64_in _ (by omega)
    have e2 : IntKind.i64.wrap ((yk - yj) * (x - xj)) = (yk - yj) * (x - xj) := IntWalk.i64_in _ (by omega)
    have e3 : IntKind.i64.wrap (yj * (xk - xj) + (yk - yj) * (x - xj)) = N := by rw [← hsn]; exact IntWalk.i64_in _ (by omega)
    have HSG := Lib.hid hsg
    clear hsg hsn hN hxk hxj hyk hyj s7 s8 s9 sa hsd
    go_wp2
    go_quiet (fail)
    go_wp2
    go_quiet (fail)
    go_wp2
    go_ret2
    exact ⟨N, xk - xj, rfl, s1, HSG.out.symm, sb, sc, below_drewN (below_drewN HB _) _⟩
set_option maxRecDepth 100000 in
set_option maxHeartbeats 1600000 in
theorem valueR (X Y : List Int) (ax ay : Addr) (n cX cY : Nat) (x : Int) (hx : -4294967296 ≤ x ∧ x ≤ 4294967296) (w : World) (SX : Sl w w.heap.size 1 (some ax) (rows X)) (SY : Sl w w.heap.size 1 (some ay) (rows Y)) (hn : n = X.length) (ok : CvOk X Y) :
    Calls Tryz.prog 141 #[.agg #[.slice (some ax) n cX, .slice (some ay) n cY], .int .i64 x] w fun e w' => ∃ num den : Int, e = .returned (.tuple #[.int .i64 num, .int .i64 den]) ∧ 0 < den ∧ num.tdiv den = cvAt X Y x ∧ -4611686018427387904 ≤ num ∧ num ≤ 4611686018427387904 ∧ Below w.heap.size w w' := by
  have HN := Lib.hid hn
  have two := ok.two
  have most := ok.most
  rw [← hn] at two most
  clear hn
  have HO := Lib.hid ok
  have hl : n - 1 < X.length := by have := HN.out; omega
  have hlY : Y.length = n := by rw [← HO.out.len]; exact HN.out.symm
  have HLY := Lib.hid hlY
  clear ok hlY
  obtain ⟨hx1, hx2⟩ := hx
  have hb0 := (Below.refl w.heap.size w).alloc (Nat.le_refl _) (.cells #[.slice (some ax) n cX, .slice (some ay) n cY] 24)
  have g0 := Blk.new w 24 #[.slice (some ax) n cX, .slice (some ay) n cY]
  obtain ⟨pf, pfa, pfb, f0⟩ := SX.at1' (k := 0) (by have := HN.out; omega)
  obtain ⟨pl, pla, plb, z0⟩ := SX.at1' (k := n - 1) hl
  obtain ⟨qf, qfa, qfb, f1⟩ := SY.at1' (k := 0) (by have := HLY.out; omega)
  obtain ⟨ql, qla, qlb, z1⟩ := SY.at1' (k := n - 1) (by have := HLY.out; omega)
  have il : ((n : Int) - 1).toNat = n - 1 := by omega
  have bf := HO.out.bd 0 (by have := HN.out; omega)
  have bl := HO.out.bd (n - 1) hl
  obtain ⟨bf1, bf2, bf3, bf4⟩ := bf
  obtain ⟨bl1, bl2, bl3, bl4⟩ := bl
  by_cases h1 : x ≤ g X 0
  · have HA := Lib.hid (at_first (Y := Y) h1)
    go_enter Tryz.func141, Tryz.ntmps141
    go_wp2
    go_ret2
    exact ⟨g Y 0, 1, rfl, by omega, by rw [HA.out, Int.tdiv_one], by omega, by omega, hb0⟩
  · go_enter Tryz.func141, Tryz.ntmps141
    go_wp2
    go_loopw [7] (fun i wr => ∃ k : Nat, 1 ≤ k ∧ k ≤ n ∧ i = .int .i64 k ∧ Hid (g X (k - 1) < x) ∧ Blk wr w.heap.size 24 #[.slice (some ax) n cX, .slice (some ay) n cY] ∧ Below w.heap.size w wr) (fun i _ => n - (intOf i).toNat)
    case atStart => exact ⟨1, by omega, by omega, rfl, (by show g X (1 - 1) < x; rw [show 1 - 1 = 0 from rfl]; omega), g0, hb0⟩
    case round =>
    clear g0 hb0
    obtain ⟨k, hk1, hkn, rfl, hlt0, g1, HB⟩ := hrel
    have l1 := g1.lt
    obtain ⟨y0, y1⟩ := g1.c2
    by_cases hk2 : k < n
    · by_cases h4' : x ≤ g X k
      · have h3' := hlt0.out
        clear hlt0
        obtain ⟨pk, pka, pkb, k0⟩ := (SX.below HB).at1' (k := k) (by have := HN.out; omega)
        obtain ⟨pj, pja, pjb, j0⟩ := (SX.below HB).at1' (k := k - 1) (by have := HN.out; omega)
        obtain ⟨qk, qka, qkb, k1⟩ := (SY.below HB).at1' (k := k) (by have := HLY.out; omega)
        obtain ⟨qj, qja, qjb, j1⟩ := (SY.below HB).at1' (k := k - 1) (by have := HLY.out; omega)
        have hs := HB.size
        have hpk : pk.block < wr.heap.size := by omega
        have hpj : pj.block < wr.heap.size := by omega
        have hqk : qk.block < wr.heap.size := by omega
        have hqj : qj.block < wr.heap.size := by omega
        have ik : ((k : Int) - 1).toNat = k - 1 := by omega
        obtain ⟨s1, s2, s3, s4, s5, s6, ⟨s7, s8⟩, ⟨s9, sa⟩, sb, sc⟩ := seg_facts HO.out (i := k) (x := x) (by have := HN.out; omega) (by omega) (by omega) (by omega)
        have hsg : cvAt X Y x = seg X Y k x := at_in HO.out (by have := HN.out; omega) hk1 h3' h4'
        have hsn : segN X Y k x = g Y (k - 1) * (g X k - g X (k - 1)) + (g Y k - g Y (k - 1)) * (x - g X (k - 1)) := rfl
        have b1 := HO.out.bd k (by have := HN.out; omega)
        have b2 := HO.out.bd (k - 1) (by have := HN.out; omega)
        have hsd : seg X Y k x = (segN X Y k x).tdiv (g X k - g X (k - 1)) := rfl
        rw [hsd] at hsg
        obtain ⟨N, hN⟩ : ∃ N, segN X Y k x = N := ⟨_, rfl⟩
        obtain ⟨xk, hxk⟩ : ∃ N, g X k = N := ⟨_, rfl⟩
        obtain ⟨xj, hxj⟩ : ∃ N, g X (k - 1) = N := ⟨_, rfl⟩
        obtain ⟨yk, hyk⟩ : ∃ N, g Y k = N := ⟨_, rfl⟩
        obtain ⟨yj, hyj⟩ : ∃ N, g Y (k - 1) = N := ⟨_, rfl⟩
        rw [hN] at hsn hsg sb sc
        simp only [hxk, hxj, hyk, hyj] at k0 k1 j0 j1 s1 s2 s3 s4 s5 s6 s7 s8 s9 sa hsn hsg b1 b2 h3' h4'
        obtain ⟨b11, b12, b13, b14⟩ := b1
        obtain ⟨b21, b22, b23, b24⟩ := b2
        have e1 : IntKind.i64.wrap (yj * (xk - xj)) = yj * (xk - xj) := IntWalk.i64_in _ (by omega)
        have e2 : IntKind.i64.wrap ((yk - yj) * (x - xj)) = (yk - yj) * (x - xj) := IntWalk.i64_in _ (by omega)
        have e3 : IntKind.i64.wrap (yj * (xk - xj) + (yk - yj) * (x - xj)) = N := by rw [← hsn]; exact IntWalk.i64_in _ (by omega)
        have HSG := Lib.hid hsg
        clear hsg hsn hN hxk hxj hyk hyj s7 s8 s9 sa hsd
        go_wp2
        go_quiet (fail)
        go_wp2
        go_quiet (fail)
        go_wp2
        go_ret2
        exact ⟨N, xk - xj, rfl, s1, HSG.out.symm, sb, sc, below_drewN (below_drewN HB _) _⟩
      · obtain ⟨pk, pka, pkb, k0⟩ := (SX.below HB).at1' (k := k) (by have := HN.out; omega)
        have hs := HB.size
        have hpk : pk.block < wr.heap.size := by omega
        go_wp2
        go_roundw
        case rel => exact ⟨k + 1, by omega, by omega, by go_num, (by show g X (k + 1 - 1) < x; rw [show k + 1 - 1 = k from rfl]; omega), g1, HB⟩
        case measure => simp [intOf]; omega
    · obtain rfl : k = n := by omega
      have HA := Lib.hid (show cvAt X Y x = g Y (k - 1) by
        have := at_last HO.out (x := x) (by rw [← HN.out]; exact Int.le_of_lt hlt0.out)
        rw [this, ← HN.out])
      have hs := HB.size
      clear qla qlb z1
      obtain ⟨ql', qla', qlb', z1'⟩ := (SY.below HB).at1' (k := k - 1) (by have := HLY.out; omega)
      have hql' : ql'.block < wr.heap.size := by omega
      go_wp2
      go_ret2
      exact ⟨g Y (k - 1), 1, rfl, by omega, by rw [HA.out, Int.tdiv_one], by omega, by omega, HB⟩
end Go.Proofs.YtpfkiohknpeifaaGreat

namespace Go.Proofs.YtpfkiohknpeifaaGreat
open Go.RowKit

theorem atM (X Y : List Int) (ax ay : Addr) (n cX cY : Nat) (x : Int) (hx : -4294967296 ≤ x ∧ x ≤ 4294967296) (w : World) (SX : Sl w w.heap.size 1 (some ax) (rows X)) (SY : Sl w w.heap.size 1 (some ay) (rows Y)) (hn : n = X.length) (ok : CvOk X Y) :
    Calls Tryz.prog 142 #[.agg #[.slice (some ax) n cX, .slice (some ay) n cY], .int .i64 x] w fun e w' => e = .returned (.int .i64 (cvAt X Y x)) ∧ Below w.heap.size w w' := by
  have hb0 := (Below.refl w.heap.size w).alloc (Nat.le_refl _) (.cells #[.slice (some ax) n cX, .slice (some ay) n cY] 24)
  have sx0 := (SX.alloc (Nat.le_refl _) (.cells #[.slice (some ax) n cX, .slice (some ay) n cY] 24)).more (show w.heap.size ≤ (w.alloc (.cells #[.slice (some ax) n cX, .slice (some ay) n cY] 24)).heap.size by simp)
  have sy0 := (SY.alloc (Nat.le_refl _) (.cells #[.slice (some ax) n cX, .slice (some ay) n cY] 24)).more (show w.heap.size ≤ (w.alloc (.cells #[.slice (some ax) n cX, .slice (some ay) n cY] 24)).heap.size by simp)
  have hva := fun (W : World) (h1 : Sl W W.heap.size 1 (some ax) (rows X)) (h2 : Sl W W.heap.size 1 (some ay) (rows Y)) => valueM X Y ax ay n cX cY x hx W h1 h2 hn ok
  have bd := ok.bd 0 (by have := ok.two; omega)
  have bl := ok.bd (X.length - 1) (by have := ok.two; omega)
  have ba := at_bd ok x
  obtain ⟨a, ha⟩ : ∃ a, cvAt X Y x = a := ⟨_, rfl⟩
  simp only [ha] at hva
  rw [ha] at ba ⊢
  have ba1 : -1073741824 ≤ a := by omega
  have ba2 : a ≤ 1073741824 := by omega
  have HVA := hide hva
  clear hva bd bl ba hx hn ok
  go_enter Tryz.func142, Tryz.ntmps142
  go_wp2_with fail
  refine ((unhide HVA) _ sx0 sy0).mono ?_
  rintro e w1 ⟨num, den, rfl, hden, hdiv, hn1, hn2, hb1⟩
  have hne : ¬ den = 0 := by omega
  have hne2 : ¬ den = -1 := by omega
  go_wp2
  go_ret
  exact ⟨rfl, hb0.trans (hb1.mono hb0.size)⟩

theorem atR (X Y : List Int) (ax ay : Addr) (n cX cY : Nat) (x : Int) (hx : -4294967296 ≤ x ∧ x ≤ 4294967296) (w : World) (SX : Sl w w.heap.size 1 (some ax) (rows X)) (SY : Sl w w.heap.size 1 (some ay) (rows Y)) (hn : n = X.length) (ok : CvOk X Y) :
    Calls Tryz.prog 122 #[.agg #[.slice (some ax) n cX, .slice (some ay) n cY], .int .i64 x] w fun e w' => e = .returned (.int .i64 (cvAt X Y x)) ∧ Below w.heap.size w w' := by
  have hb0 := (Below.refl w.heap.size w).alloc (Nat.le_refl _) (.cells #[.slice (some ax) n cX, .slice (some ay) n cY] 24)
  have sx0 := (SX.alloc (Nat.le_refl _) (.cells #[.slice (some ax) n cX, .slice (some ay) n cY] 24)).more (show w.heap.size ≤ (w.alloc (.cells #[.slice (some ax) n cX, .slice (some ay) n cY] 24)).heap.size by simp)
  have sy0 := (SY.alloc (Nat.le_refl _) (.cells #[.slice (some ax) n cX, .slice (some ay) n cY] 24)).more (show w.heap.size ≤ (w.alloc (.cells #[.slice (some ax) n cX, .slice (some ay) n cY] 24)).heap.size by simp)
  have hva := fun (W : World) (h1 : Sl W W.heap.size 1 (some ax) (rows X)) (h2 : Sl W W.heap.size 1 (some ay) (rows Y)) => valueR X Y ax ay n cX cY x hx W h1 h2 hn ok
  have bd := ok.bd 0 (by have := ok.two; omega)
  have bl := ok.bd (X.length - 1) (by have := ok.two; omega)
  have ba := at_bd ok x
  obtain ⟨a, ha⟩ : ∃ a, cvAt X Y x = a := ⟨_, rfl⟩
  simp only [ha] at hva
  rw [ha] at ba ⊢
  have ba1 : -1073741824 ≤ a := by omega
  have ba2 : a ≤ 1073741824 := by omega
  have HVA := hide hva
  clear hva bd bl ba hx hn ok
  go_enter Tryz.func122, Tryz.ntmps122
  go_wp2_with fail
  refine ((unhide HVA) _ sx0 sy0).mono ?_
  rintro e w1 ⟨num, den, rfl, hden, hdiv, hn1, hn2, hb1⟩
  have hne : ¬ den = 0 := by omega
  have hne2 : ¬ den = -1 := by omega
  go_wp2
  go_ret
  exact ⟨rfl, hb0.trans (hb1.mono hb0.size)⟩

theorem AtM (X Y : List Int) (ax ay : Addr) (n cX cY : Nat) (x : Int) (hx : -4294967296 ≤ x ∧ x ≤ 4294967296) (w : World) (SX : Sl w w.heap.size 1 (some ax) (rows X)) (SY : Sl w w.heap.size 1 (some ay) (rows Y)) (hn : n = X.length) (ok : CvOk X Y) (hc : cvCode X Y = 0) :
    Calls Tryz.prog 125 #[.agg #[.slice (some ax) n cX, .slice (some ay) n cY], .int .i64 x] w fun e w' => e = .returned (.tuple #[.int .i64 (cvAt X Y x), .nilIface]) ∧ Below w.heap.size w w' := by
  have hb0 := (Below.refl w.heap.size w).alloc (Nat.le_refl _) (.cells #[.slice (some ax) n cX, .slice (some ay) n cY] 24)
  have g0 := Blk.new w 24 #[.slice (some ax) n cX, .slice (some ay) n cY]
  have sx0 := (SX.alloc (Nat.le_refl _) (.cells #[.slice (some ax) n cX, .slice (some ay) n cY] 24)).more (show w.heap.size ≤ (w.alloc (.cells #[.slice (some ax) n cX, .slice (some ay) n cY] 24)).heap.size by simp)
  have sy0 := (SY.alloc (Nat.le_refl _) (.cells #[.slice (some ax) n cX, .slice (some ay) n cY] 24)).more (show w.heap.size ≤ (w.alloc (.cells #[.slice (some ax) n cX, .slice (some ay) n cY] 24)).heap.size by simp)
  have hva := fun (W : World) (h1 : Sl W W.heap.size 1 (some ax) (rows X)) (h2 : Sl W W.heap.size 1 (some ay) (rows Y)) => atM X Y ax ay n cX cY x hx W h1 h2 hn ok
  have hck := fun (W : World) (h1 : Sl W W.heap.size 1 (some ax) (rows X)) (h2 : Sl W W.heap.size 1 (some ay) (rows Y)) => cvchk_walk X Y (some ax) (some ay) n n cX cY W h1 h2 hn (by rw [hn, ok.len])
  simp only [hc, errV_zero] at hck
  have HVA := hide hva
  have HCK := hide hck
  clear hva hck hx hn ok hc
  go_enter Tryz.func125, Tryz.ntmps125
  go_wp2_with fail
  refine ((unhide HCK) _ sx0 sy0).mono ?_
  rintro e w1 ⟨rfl, hb1⟩
  have g1 := g0.below hb1 g0.lt
  have sx1 := (sx0.below hb1).more hb1.size
  have sy1 := (sy0.below hb1).more hb1.size
  obtain ⟨y0, y1⟩ := g1.c2
  have l1 := g1.lt
  go_wp2_with fail
  refine ((unhide HVA) _ sx1 sy1).mono ?_
  rintro e w2 ⟨rfl, hb2⟩
  have hbA := hb0.trans (hb1.mono hb0.size)
  go_wp2
  go_ret2
  exact ⟨rfl, hbA.trans (hb2.mono hbA.size)⟩
end Go.Proofs.YtpfkiohknpeifaaGreat

namespace Go.Proofs.YtpfkiohknpeifaaGreat
open Go.RowKit
/-- What is wrong with a point of a curve of currents. -/
def mcE (X Y : List Int) (i : Nat) : Int := if -268435456 ≤ g X i ∧ g X i ≤ 268435456 ∧ -1048576 ≤ g Y i ∧ g Y i ≤ 1048576 then 0 else 3
/-- What is wrong with a curve of currents. -/
def mcCode (X Y : List Int) : Int :=
  if cvCode X Y ≠ 0 then cvCode X Y else if fe (mcE X Y) X.length ≠ 0 then fe (mcE X Y) X.length
  else if 0 ≤ g X 0 ∨ g X (X.length - 1) ≤ 0 ∨ cvAt X Y 0 ≠ 0 then 2 else 0
structure McOk (X Y : List Int) : Prop where
  ok : CvOk X Y
  cv : cvCode X Y = 0
  bd : ∀ i, i < X.length → -268435456 ≤ g X i ∧ g X i ≤ 268435456 ∧ -1048576 ≤ g Y i ∧ g Y i ≤ 1048576
  lo : g X 0 < 0
  hi : 0 < g X (X.length - 1)
  zero : cvAt X Y 0 = 0
theorem mc_ok {X Y : List Int} (h : mcCode X Y = 0) : McOk X Y := by
  unfold mcCode at h
  split at h
  · contradiction
  split at h
  · contradiction
  split at h
  · contradiction
  rename_i h1 h2 h3
  have h1' : cvCode X Y = 0 := by omega
  have h2' : fe (mcE X Y) X.length = 0 := by omega
  refine ⟨cv_ok h1', h1', fun i hi => ?_, by omega, by omega, by omega⟩
  have := fe_zero h2' i hi
  unfold mcE at this
  split at this
  · assumption
  · contradiction
theorem mcCode_cv {X Y : List Int} (h : cvCode X Y ≠ 0) : mcCode X Y = cvCode X Y := by unfold mcCode; rw [if_pos h]
theorem mcCode_pt {X Y : List Int} (h : cvCode X Y = 0) (h2 : fe (mcE X Y) X.length ≠ 0) : mcCode X Y = fe (mcE X Y) X.length := by unfold mcCode; rw [if_neg (by omega), if_pos h2]
theorem mcCode_end {X Y : List Int} (h : cvCode X Y = 0) (h2 : fe (mcE X Y) X.length = 0) : mcCode X Y = if 0 ≤ g X 0 ∨ g X (X.length - 1) ≤ 0 ∨ cvAt X Y 0 ≠ 0 then 2 else 0 := by unfold mcCode; rw [if_neg (by omega), if_neg (by omega)]
set_option maxRecDepth 100000 in
set_option maxHeartbeats 1600000 in
theorem mcheck_walk (X Y : List Int) (AX AY : Option Addr) (n m cX cY : Nat) (w : World) (SX : Sl w w.heap.size 1 AX (rows X)) (SY : Sl w w.heap.size 1 AY (rows Y)) (hn : n = X.length) (hm : m = Y.length) :
    Calls Tryz.prog 78 #[.agg #[.slice AX n cX, .slice AY m cY]] w fun e w' => e = .returned (errV (mcCode X Y)) ∧ Below w.heap.size w w' := by
  have hck := fun (W : World) (h1 : Sl W W.heap.size 1 AX (rows X)) (h2 : Sl W W.heap.size 1 AY (rows Y)) => cvchk_walk X Y AX AY n m cX cY W h1 h2 hn hm
  have HN := Lib.hid hn
  have HM := Lib.hid hm
  clear hn hm
  have hb0 := (Below.refl w.heap.size w).alloc (Nat.le_refl _) (.cells #[.slice AX n cX, .slice AY m cY] 24)
  have g0 := Blk.new w 24 #[.slice AX n cX, .slice AY m cY]
  have sx0 := (SX.alloc (Nat.le_refl _) (.cells #[.slice AX n cX, .slice AY m cY] 24)).more (show w.heap.size ≤ (w.alloc (.cells #[.slice AX n cX, .slice AY m cY] 24)).heap.size by simp)
  have sy0 := (SY.alloc (Nat.le_refl _) (.cells #[.slice AX n cX, .slice AY m cY] 24)).more (show w.heap.size ≤ (w.alloc (.cells #[.slice AX n cX, .slice AY m cY] 24)).heap.size by simp)
  by_cases hc : cvCode X Y = 0
  case neg =>
    have HC := Lib.hid (mcCode_cv hc)
    obtain ⟨code, hcode⟩ : ∃ x, cvCode X Y = x := ⟨_, rfl⟩
    simp only [hcode] at hck
    rw [hcode] at hc HC
    have hev := errV_ne hc
    simp only [hev] at hck
    have HCK := hide hck
    clear hck hcode
    go_enter Tryz.func78, Tryz.ntmps78
    go_wp2_with fail
    refine ((unhide HCK) _ sx0 sy0).mono ?_
    rintro e w1 ⟨rfl, hb1⟩
    go_wp2
    go_ret
    exact ⟨by rw [HC.out, hev]; rfl, hb0.trans (hb1.mono hb0.size)⟩
  simp only [hc, errV_zero] at hck
  have HCK := hide hck
  have HO := Lib.hid (cv_ok hc)
  have HC := Lib.hid hc
  clear hck hc
  obtain ⟨ax, rfl⟩ := SX.ptr (by have := HO.out.two; omega)
  obtain ⟨ay, rfl⟩ := SY.ptr (by have := HO.out.two; have := HO.out.len; omega)
  have hnm : m = n := by have := HN.out; have := HM.out; have := HO.out.len; omega
  subst hnm
  have hat := fun (W : World) (h1 : Sl W W.heap.size 1 (some ax) (rows X)) (h2 : Sl W W.heap.size 1 (some ay) (rows Y)) => AtM X Y ax ay m cX cY 0 (by omega) W h1 h2 HN.out HO.out HC.out
  have HAT := hide hat
  have n2 : 2 ≤ m := by have := HO.out.two; have := HN.out; omega
  have n32 : m ≤ 32 := by have := HO.out.most; have := HN.out; omega
  clear hat
  go_enter Tryz.func78, Tryz.ntmps78
  go_wp2_with fail
  refine ((unhide HCK) _ sx0 sy0).mono ?_
  rintro e w1 ⟨rfl, hb1⟩
  have g1 := g0.below hb1 g0.lt
  have HB := hb0.trans (hb1.mono hb0.size)
  have l1 := g1.lt
  obtain ⟨y0, y1⟩ := g1.c2
  clear g0 hb0 sx0 sy0 hb1 HCK
  go_wp2
  go_loopw [20] (fun i wr => ∃ k : Nat, k ≤ m ∧ i = .int .i64 k ∧ Hid (∀ j, j < k → mcE X Y j = 0) ∧ Blk wr w.heap.size 24 #[.slice (some ax) m cX, .slice (some ay) m cY] ∧ Below w.heap.size w wr) (fun i _ => m - (intOf i).toNat)
  case atStart => exact ⟨0, Nat.zero_le _, rfl, (fun j h => by omega), g1, HB⟩
  case round =>
  clear g1 HB y0 y1 l1
  obtain ⟨k, hk, rfl, hg, g1, HB⟩ := hrel
  have l1 := g1.lt
  have hs := HB.size
  obtain ⟨y0, y1⟩ := g1.c2
  by_cases hlt : k < m
  · have hkl : k < X.length := by have := HN.out; omega
    obtain ⟨p, hpa, hpb, c0⟩ := (SX.below HB).at1' hkl
    obtain ⟨q, hqa, hqb, d0⟩ := (SY.below HB).at1' (k := k) (by have := HM.out; omega)
    have hpb1 : p.block < wr.heap.size := by omega
    have hqb1 : q.block < wr.heap.size := by omega
    rcases Bool.eq_false_or_eq_true (wiB (g X k) (-268435456) 268435456) with hw1 | hw1
    · rcases Bool.eq_false_or_eq_true (wiB (g Y k) (-1048576) 1048576) with hw2 | hw2
      · have HE := Lib.hid (show mcE X Y k = 0 by
          unfold mcE
          unfold wiB at hw1 hw2
          rw [decide_eq_true_eq] at hw1 hw2
          rw [if_pos (by omega)])
        go_wp2_with (first | (go_at_call 77; refine (wiM _ _ _ _).mono ?_; rintro e w' ⟨rfl, rfl⟩))
        go_roundw
        case rel => exact ⟨k + 1, by omega, by go_num, (fun j hj => by
          by_cases hjk : j = k
          · subst hjk; exact HE.out
          · exact hg.out j (by omega)), g1, HB⟩
        case measure => simp [intOf]; omega
      · have he : mcE X Y k = 3 := by
          unfold mcE
          unfold wiB at hw2
          rw [decide_eq_false_iff_not] at hw2
          rw [if_neg (by omega)]
        have HE := Lib.hid (show mcCode X Y = 3 by
          have hf := fe_hit hkl hg.out (by rw [he]; decide)
          rw [mcCode_pt HC.out (by rw [hf, he]; decide), hf, he])
        clear he
        go_wp2_with (first | (go_at_call 77; refine (wiM _ _ _ _).mono ?_; rintro e w' ⟨rfl, rfl⟩))
        go_ret
        exact ⟨by rw [HE.out]; rfl, HB⟩
    · have he : mcE X Y k = 3 := by
        unfold mcE
        unfold wiB at hw1
        rw [decide_eq_false_iff_not] at hw1
        rw [if_neg (by omega)]
      have HE := Lib.hid (show mcCode X Y = 3 by
        have hf := fe_hit hkl hg.out (by rw [he]; decide)
        rw [mcCode_pt HC.out (by rw [hf, he]; decide), hf, he])
      clear he
      go_wp2_with (first | (go_at_call 77; refine (wiM _ _ _ _).mono ?_; rintro e w' ⟨rfl, rfl⟩))
      go_ret
      exact ⟨by rw [HE.out]; rfl, HB⟩
  · obtain rfl : k = m := by omega
    have HE := Lib.hid (show mcCode X Y = if 0 ≤ g X 0 ∨ g X (k - 1) ≤ 0 ∨ cvAt X Y 0 ≠ 0 then 2 else 0 by
      rw [mcCode_end HC.out (fe_none fun i hi => hg.out i (by have := HN.out; omega)), ← HN.out])
    have sx1 := (SX.below HB).more hs
    have sy1 := (SY.below HB).more hs
    obtain ⟨a, ha⟩ : ∃ a, cvAt X Y 0 = a := ⟨_, rfl⟩
    have hat := unhide HAT
    simp only [ha] at hat
    rw [ha] at HE
    clear HAT ha
    go_wp2_with fail
    refine (hat _ sx1 sy1).mono ?_
    rintro e w2 ⟨rfl, hb2⟩
    have g2 := g1.below hb2 g1.lt
    have HB2 := HB.trans (hb2.mono hs)
    have l2 := g2.lt
    have hs2 := hb2.size
    obtain ⟨y0, y1⟩ := g2.c2
    obtain ⟨pf, pfa, pfb, f0⟩ := (sx1.below hb2).at1' (k := 0) (by have := HN.out; omega)
    obtain ⟨pl, pla, plb, z0⟩ := (sx1.below hb2).at1' (k := k - 1) (by have := HN.out; omega)
    have hpf : pf.block < w2.heap.size := by omega
    have hpl : pl.block < w2.heap.size := by omega
    have il : ((k : Int) - 1).toNat = k - 1 := by omega
    obtain ⟨x0, hx0⟩ : ∃ x, g X 0 = x := ⟨_, rfl⟩
    obtain ⟨xl, hxl⟩ : ∃ x, g X (k - 1) = x := ⟨_, rfl⟩
    rw [hx0] at f0
    rw [hxl] at z0
    rw [hx0, hxl] at HE
    clear hx0 hxl
    clear hat
    by_cases h1 : a = 0
    · subst h1
      by_cases h2 : 0 ≤ x0
      · go_wp2
        go_ret
        exact ⟨by rw [HE.out, if_pos (by omega)]; rfl, HB2⟩
      · by_cases h3 : xl ≤ 0
        · go_wp2
          go_ret
          exact ⟨by rw [HE.out, if_pos (by omega)]; rfl, HB2⟩
        · go_wp2
          go_ret
          exact ⟨by rw [HE.out, if_neg (by omega)]; rfl, HB2⟩
    · go_wp2
      go_ret
      exact ⟨by rw [HE.out, if_pos (by omega)]; rfl, HB2⟩
set_option maxRecDepth 100000 in
set_option maxHeartbeats 1600000 in
theorem rcurve_walk (X Y : List Int) (AX AY : Option Addr) (n m cX cY : Nat) (w : World) (SX : Sl w w.heap.size 1 AX (rows X)) (SY : Sl w w.heap.size 1 AY (rows Y)) (hn : n = X.length) (hm : m = Y.length) :
    Calls Tryz.prog 71 #[.agg #[.slice AX n cX, .slice AY m cY]] w fun e w' => e = .returned (.int .i64 (mcCode X Y)) ∧ Below w.heap.size w w' := by
  have hck := fun (W : World) (h1 : Sl W W.heap.size 1 AX (rows X)) (h2 : Sl W W.heap.size 1 AY (rows Y)) => rcvchk_walk X Y AX AY n m cX cY W h1 h2 hn hm
  have HN := Lib.hid hn
  have HM := Lib.hid hm
  clear hn hm
  have hb0 := (Below.refl w.heap.size w).alloc (Nat.le_refl _) (.cells #[.slice AX n cX, .slice AY m cY] 24)
  have g0 := Blk.new w 24 #[.slice AX n cX, .slice AY m cY]
  have sx0 := (SX.alloc (Nat.le_refl _) (.cells #[.slice AX n cX, .slice AY m cY] 24)).more (show w.heap.size ≤ (w.alloc (.cells #[.slice AX n cX, .slice AY m cY] 24)).heap.size by simp)
  have sy0 := (SY.alloc (Nat.le_refl _) (.cells #[.slice AX n cX, .slice AY m cY] 24)).more (show w.heap.size ≤ (w.alloc (.cells #[.slice AX n cX, .slice AY m cY] 24)).heap.size by simp)
  by_cases hc : cvCode X Y = 0
  case neg =>
    have HC := Lib.hid (mcCode_cv hc)
    obtain ⟨code, hcode⟩ : ∃ x, cvCode X Y = x := ⟨_, rfl⟩
    simp only [hcode] at hck
    rw [hcode] at hc HC
    have HCK := hide hck
    clear hck hcode
    go_enter Tryz.func71, Tryz.ntmps71
    go_wp2_with fail
    refine ((unhide HCK) _ sx0 sy0).mono ?_
    rintro e w1 ⟨rfl, hb1⟩
    go_wp2
    go_ret
    exact ⟨by rw [HC.out]; rfl, hb0.trans (hb1.mono hb0.size)⟩
  simp only [hc] at hck
  have HCK := hide hck
  have HO := Lib.hid (cv_ok hc)
  have HC := Lib.hid hc
  clear hck hc
  obtain ⟨ax, rfl⟩ := SX.ptr (by have := HO.out.two; omega)
  obtain ⟨ay, rfl⟩ := SY.ptr (by have := HO.out.two; have := HO.out.len; omega)
  have hnm : m = n := by have := HN.out; have := HM.out; have := HO.out.len; omega
  subst hnm
  have hat := fun (W : World) (h1 : Sl W W.heap.size 1 (some ax) (rows X)) (h2 : Sl W W.heap.size 1 (some ay) (rows Y)) => atR X Y ax ay m cX cY 0 (by omega) W h1 h2 HN.out HO.out
  have HAT := hide hat
  have n2 : 2 ≤ m := by have := HO.out.two; have := HN.out; omega
  have n32 : m ≤ 32 := by have := HO.out.most; have := HN.out; omega
  clear hat
  go_enter Tryz.func71, Tryz.ntmps71
  go_wp2_with fail
  refine ((unhide HCK) _ sx0 sy0).mono ?_
  rintro e w1 ⟨rfl, hb1⟩
  have g1 := g0.below hb1 g0.lt
  have HB := hb0.trans (hb1.mono hb0.size)
  have l1 := g1.lt
  obtain ⟨y0, y1⟩ := g1.c2
  clear g0 hb0 sx0 sy0 hb1 HCK
  go_wp2
  go_loopw [5] (fun i wr => ∃ k : Nat, k ≤ m ∧ i = .int .i64 k ∧ Hid (∀ j, j < k → mcE X Y j = 0) ∧ Blk wr w.heap.size 24 #[.slice (some ax) m cX, .slice (some ay) m cY] ∧ Below w.heap.size w wr) (fun i _ => m - (intOf i).toNat)
  case atStart => exact ⟨0, Nat.zero_le _, rfl, (fun j h => by omega), g1, HB⟩
  case round =>
  clear g1 HB y0 y1 l1
  obtain ⟨k, hk, rfl, hg, g1, HB⟩ := hrel
  have l1 := g1.lt
  have hs := HB.size
  obtain ⟨y0, y1⟩ := g1.c2
  by_cases hlt : k < m
  · have hkl : k < X.length := by have := HN.out; omega
    obtain ⟨p, hpa, hpb, c0⟩ := (SX.below HB).at1' hkl
    obtain ⟨q, hqa, hqb, d0⟩ := (SY.below HB).at1' (k := k) (by have := HM.out; omega)
    have hpb1 : p.block < wr.heap.size := by omega
    have hqb1 : q.block < wr.heap.size := by omega
    rcases Bool.eq_false_or_eq_true (wiB (g X k) (-268435456) 268435456) with hw1 | hw1
    · rcases Bool.eq_false_or_eq_true (wiB (g Y k) (-1048576) 1048576) with hw2 | hw2
      · have HE := Lib.hid (show mcE X Y k = 0 by
          unfold mcE
          unfold wiB at hw1 hw2
          rw [decide_eq_true_eq] at hw1 hw2
          rw [if_pos (by omega)])
        go_wp2_with (first | (go_at_call 70; refine (wiR _ _ _ _).mono ?_; rintro e w' ⟨rfl, rfl⟩))
        go_roundw
        case rel => exact ⟨k + 1, by omega, by go_num, (fun j hj => by
          by_cases hjk : j = k
          · subst hjk; exact HE.out
          · exact hg.out j (by omega)), g1, HB⟩
        case measure => simp [intOf]; omega
      · have he : mcE X Y k = 3 := by
          unfold mcE
          unfold wiB at hw2
          rw [decide_eq_false_iff_not] at hw2
          rw [if_neg (by omega)]
        have HE := Lib.hid (show mcCode X Y = 3 by
          have hf := fe_hit hkl hg.out (by rw [he]; decide)
          rw [mcCode_pt HC.out (by rw [hf, he]; decide), hf, he])
        clear he
        go_wp2_with (first | (go_at_call 70; refine (wiR _ _ _ _).mono ?_; rintro e w' ⟨rfl, rfl⟩))
        go_ret
        exact ⟨by rw [HE.out]; rfl, HB⟩
    · have he : mcE X Y k = 3 := by
        unfold mcE
        unfold wiB at hw1
        rw [decide_eq_false_iff_not] at hw1
        rw [if_neg (by omega)]
      have HE := Lib.hid (show mcCode X Y = 3 by
        have hf := fe_hit hkl hg.out (by rw [he]; decide)
        rw [mcCode_pt HC.out (by rw [hf, he]; decide), hf, he])
      clear he
      go_wp2_with (first | (go_at_call 70; refine (wiR _ _ _ _).mono ?_; rintro e w' ⟨rfl, rfl⟩))
      go_ret
      exact ⟨by rw [HE.out]; rfl, HB⟩
  · obtain rfl : k = m := by omega
    have HE := Lib.hid (show mcCode X Y = if 0 ≤ g X 0 ∨ g X (k - 1) ≤ 0 ∨ cvAt X Y 0 ≠ 0 then 2 else 0 by
      rw [mcCode_end HC.out (fe_none fun i hi => hg.out i (by have := HN.out; omega)), ← HN.out])
    have sx1 := (SX.below HB).more hs
    have sy1 := (SY.below HB).more hs
    obtain ⟨a, ha⟩ : ∃ a, cvAt X Y 0 = a := ⟨_, rfl⟩
    have hat := unhide HAT
    simp only [ha] at hat
    rw [ha] at HE
    clear HAT ha
    obtain ⟨pf, pfa, pfb, f0⟩ := sx1.at1' (k := 0) (by have := HN.out; omega)
    obtain ⟨pl, pla, plb, z0⟩ := sx1.at1' (k := k - 1) (by have := HN.out; omega)
    have hpf : pf.block < wr.heap.size := by omega
    have hpl : pl.block < wr.heap.size := by omega
    have il : ((k : Int) - 1).toNat = k - 1 := by omega
    obtain ⟨x0, hx0⟩ : ∃ x, g X 0 = x := ⟨_, rfl⟩
    obtain ⟨xl, hxl⟩ : ∃ x, g X (k - 1) = x := ⟨_, rfl⟩
    rw [hx0] at f0
    rw [hxl] at z0
    rw [hx0, hxl] at HE
    clear hx0 hxl
    by_cases h2 : 0 ≤ x0
    · go_wp2
      go_ret
      exact ⟨by rw [HE.out, if_pos (by omega)]; rfl, HB⟩
    · by_cases h3 : xl ≤ 0
      · go_wp2
        go_ret
        exact ⟨by rw [HE.out, if_pos (by omega)]; rfl, HB⟩
      · go_wp2_with fail
        refine (hat _ sx1 sy1).mono ?_
        rintro e w2 ⟨rfl, hb2⟩
        have HB2 := HB.trans (hb2.mono hs)
        by_cases h1 : a = 0
        · subst h1
          go_wp2
          go_ret
          exact ⟨by rw [HE.out, if_neg (by omega)]; rfl, HB2⟩
        · go_wp2
          go_ret
          exact ⟨by rw [HE.out, if_pos (by omega)]; rfl, HB2⟩
end Go.Proofs.YtpfkiohknpeifaaGreat

namespace Go.Proofs.YtpfkiohknpeifaaGreat
open Go.RowKit
/-- The numbers and curves of a machine's configuration. -/
structure Cf where
  r : Int
  m : Int
  dx : List Int
  dy : List Int
  qx : List Int
  qy : List Int
  p : Int
  s : Int
  f : Int
/-- What is wrong with a configuration. -/
def cfCode (C : Cf) : Int :=
  if wiB C.r 0 1048576 = true ∧ wiB C.m 0 268435456 = true then
    if mcCode C.dx C.dy ≠ 0 then mcCode C.dx C.dy
    else if mcCode C.qx C.qy ≠ 0 then mcCode C.qx C.qy
    else if wiB C.p 1 64 = true ∧ wiB C.s 1 1099511627776 = true ∧ wiB C.f 0 268435456 = true then 0 else 3
  else 3
structure CfOk (C : Cf) : Prop where
  r : 0 ≤ C.r ∧ C.r ≤ 1048576
  m : 0 ≤ C.m ∧ C.m ≤ 268435456
  d : McOk C.dx C.dy
  q : McOk C.qx C.qy
  p : 1 ≤ C.p ∧ C.p ≤ 64
  s : 1 ≤ C.s ∧ C.s ≤ 1099511627776
  f : 0 ≤ C.f ∧ C.f ≤ 268435456
theorem wiB_iff {n lo hi : Int} : wiB n lo hi = true ↔ lo ≤ n ∧ n ≤ hi := by unfold wiB; exact decide_eq_true_iff
theorem cf_ok {C : Cf} (h : cfCode C = 0) : CfOk C := by
  unfold cfCode at h
  split at h
  · rename_i h1
    split at h
    · contradiction
    split at h
    · contradiction
    split at h
    · rename_i h2 h3 h4
      exact ⟨wiB_iff.1 h1.1, wiB_iff.1 h1.2, mc_ok (by omega), mc_ok (by omega), wiB_iff.1 h4.1, wiB_iff.1 h4.2.1, wiB_iff.1 h4.2.2⟩
    · omega
  · omega
/-- The curves of a configuration lie below block B. -/
structure Ly (w : World) (B : Nat) (C : Cf) (A1 A2 A3 A4 : Option Addr) (n1 n2 n3 n4 : Nat) : Prop where
  s1 : Sl w B 1 A1 (rows C.dx)
  s2 : Sl w B 1 A2 (rows C.dy)
  s3 : Sl w B 1 A3 (rows C.qx)
  s4 : Sl w B 1 A4 (rows C.qy)
  e1 : n1 = C.dx.length
  e2 : n2 = C.dy.length
  e3 : n3 = C.qx.length
  e4 : n4 = C.qy.length
section
variable {w w' : World} {B B' : Nat} {C : Cf} {A1 A2 A3 A4 : Option Addr} {n1 n2 n3 n4 : Nat}
theorem Ly.below (h : Ly w B C A1 A2 A3 A4 n1 n2 n3 n4) (hb : Below B w w') : Ly w' B C A1 A2 A3 A4 n1 n2 n3 n4 := ⟨h.s1.below hb, h.s2.below hb, h.s3.below hb, h.s4.below hb, h.e1, h.e2, h.e3, h.e4⟩
theorem Ly.more (h : Ly w B C A1 A2 A3 A4 n1 n2 n3 n4) (hb : B ≤ B') : Ly w B' C A1 A2 A3 A4 n1 n2 n3 n4 := ⟨h.s1.more hb, h.s2.more hb, h.s3.more hb, h.s4.more hb, h.e1, h.e2, h.e3, h.e4⟩
theorem Ly.alloc (h : Ly w B C A1 A2 A3 A4 n1 n2 n3 n4) (hB : B ≤ w.heap.size) (o : Obj) : Ly (w.alloc o) B C A1 A2 A3 A4 n1 n2 n3 n4 := ⟨h.s1.alloc hB o, h.s2.alloc hB o, h.s3.alloc hB o, h.s4.alloc hB o, h.e1, h.e2, h.e3, h.e4⟩
/-- To the world behind: all that lies in it. -/
theorem Ly.to (h : Ly w w.heap.size C A1 A2 A3 A4 n1 n2 n3 n4) (hb : Below w.heap.size w w') : Ly w' w'.heap.size C A1 A2 A3 A4 n1 n2 n3 n4 := (h.below hb).more hb.size
theorem Ly.new (h : Ly w w.heap.size C A1 A2 A3 A4 n1 n2 n3 n4) (o : Obj) : Ly (w.alloc o) (w.alloc o).heap.size C A1 A2 A3 A4 n1 n2 n3 n4 := (h.alloc (Nat.le_refl _) o).more (by simp)
theorem Ly.drew (h : Ly w B C A1 A2 A3 A4 n1 n2 n3 n4) : Ly w.drew B C A1 A2 A3 A4 n1 n2 n3 n4 := ⟨h.s1.keep fun _ _ => rfl, h.s2.keep fun _ _ => rfl, h.s3.keep fun _ _ => rfl, h.s4.keep fun _ _ => rfl, h.e1, h.e2, h.e3, h.e4⟩
theorem Ly.drewN (h : Ly w B C A1 A2 A3 A4 n1 n2 n3 n4) (k : Nat) : Ly (w.drewN k) B C A1 A2 A3 A4 n1 n2 n3 n4 := ⟨h.s1.keep fun _ _ => rfl, h.s2.keep fun _ _ => rfl, h.s3.keep fun _ _ => rfl, h.s4.keep fun _ _ => rfl, h.e1, h.e2, h.e3, h.e4⟩
/-- Where the configuration is right: no pointer is nil, and the curves' rows are as long as each other. -/
theorem Ly.ptrs (h : Ly w B C A1 A2 A3 A4 n1 n2 n3 n4) (ok : CfOk C) : ∃ a1 a2 a3 a4, A1 = some a1 ∧ A2 = some a2 ∧ A3 = some a3 ∧ A4 = some a4 ∧ n2 = n1 ∧ n4 = n3 := by
  have k1 := ok.d.ok.two
  have k2 := ok.d.ok.len
  have k3 := ok.q.ok.two
  have k4 := ok.q.ok.len
  obtain ⟨a1, p1⟩ := h.s1.ptr (by omega)
  obtain ⟨a2, p2⟩ := h.s2.ptr (by omega)
  obtain ⟨a3, p3⟩ := h.s3.ptr (by omega)
  obtain ⟨a4, p4⟩ := h.s4.ptr (by omega)
  exact ⟨a1, a2, a3, a4, p1, p2, p3, p4, by rw [h.e1, h.e2, k2], by rw [h.e3, h.e4, k4]⟩
end
set_option maxRecDepth 100000 in
set_option maxHeartbeats 3200000 in
theorem chkM (C : Cf) (A1 A2 A3 A4 : Option Addr) (n1 n2 n3 n4 c1 c2 c3 c4 : Nat) (w : World) (L : Ly w w.heap.size C A1 A2 A3 A4 n1 n2 n3 n4) :
    Calls Tryz.prog 29 #[.agg #[.int .i64 C.r, .int .i64 C.m, .slice A1 n1 c1, .slice A2 n2 c2, .slice A3 n3 c3, .slice A4 n4 c4, .int .i64 C.p, .int .i64 C.s, .int .i64 C.f]] w fun e w' => e = .returned (errV (cfCode C)) ∧ Below w.heap.size w w' := by
  have hck1 := fun (W : World) (h : Ly W W.heap.size C A1 A2 A3 A4 n1 n2 n3 n4) => mcheck_walk C.dx C.dy A1 A2 n1 n2 c1 c2 W h.s1 h.s2 h.e1 h.e2
  have hck2 := fun (W : World) (h : Ly W W.heap.size C A1 A2 A3 A4 n1 n2 n3 n4) => mcheck_walk C.qx C.qy A3 A4 n3 n4 c3 c4 W h.s3 h.s4 h.e3 h.e4
  obtain ⟨d1, hd1⟩ : ∃ x, mcCode C.dx C.dy = x := ⟨_, rfl⟩
  obtain ⟨d2, hd2⟩ : ∃ x, mcCode C.qx C.qy = x := ⟨_, rfl⟩
  simp only [hd1] at hck1
  simp only [hd2] at hck2
  have HV : Hid (cfCode C = if wiB C.r 0 1048576 = true ∧ wiB C.m 0 268435456 = true then if d1 ≠ 0 then d1 else if d2 ≠ 0 then d2 else if wiB C.p 1 64 = true ∧ wiB C.s 1 1099511627776 = true ∧ wiB C.f 0 268435456 = true then 0 else 3 else 3) := by
    rw [← hd1, ← hd2]
    exact (rfl : cfCode C = _)
  clear hd1 hd2
  have hb0 := (Below.refl w.heap.size w).alloc (Nat.le_refl _) (.cells #[.int .i64 C.r, .int .i64 C.m, .slice A1 n1 c1, .slice A2 n2 c2, .slice A3 n3 c3, .slice A4 n4 c4, .int .i64 C.p, .int .i64 C.s, .int .i64 C.f] 26)
  have g0 := Blk.new w 26 #[.int .i64 C.r, .int .i64 C.m, .slice A1 n1 c1, .slice A2 n2 c2, .slice A3 n3 c3, .slice A4 n4 c4, .int .i64 C.p, .int .i64 C.s, .int .i64 C.f]
  have L0 := L.new (.cells #[.int .i64 C.r, .int .i64 C.m, .slice A1 n1 c1, .slice A2 n2 c2, .slice A3 n3 c3, .slice A4 n4 c4, .int .i64 C.p, .int .i64 C.s, .int .i64 C.f] 26)
  go_enter Tryz.func29, Tryz.ntmps29
  rcases Bool.eq_false_or_eq_true (wiB C.r 0 1048576) with q1 | q1
  case inr =>
    go_wp2_with (first | (go_at_call 77; refine (wiM _ _ _ _).mono ?_; rintro e w' ⟨rfl, rfl⟩))
    go_ret
    exact ⟨by rw [HV.out, if_neg (by rw [q1]; simp)]; rfl, hb0⟩
  rcases Bool.eq_false_or_eq_true (wiB C.m 0 268435456) with q2 | q2
  case inr =>
    go_wp2_with (first | (go_at_call 77; refine (wiM _ _ _ _).mono ?_; rintro e w' ⟨rfl, rfl⟩))
    go_ret
    exact ⟨by rw [HV.out, if_neg (by rw [q2]; simp)]; rfl, hb0⟩
  by_cases e1 : d1 = 0
  case neg =>
    have ev := errV_ne e1
    simp only [ev] at hck1
    have HCK := hide hck1
    clear hck1 hck2
    go_wp2_with (first | (go_at_call 77; refine (wiM _ _ _ _).mono ?_; rintro e w' ⟨rfl, rfl⟩))
    refine ((unhide HCK) _ L0).mono ?_
    rintro e w1 ⟨rfl, hb1⟩
    go_wp2
    go_ret
    exact ⟨by rw [HV.out, if_pos ⟨q1, q2⟩, if_pos e1, ev]; rfl, hb0.trans (hb1.mono hb0.size)⟩
  subst e1
  simp only [errV_zero] at hck1
  have HCK1 := hide hck1
  clear hck1
  by_cases e2 : d2 = 0
  case neg =>
    have ev := errV_ne e2
    simp only [ev] at hck2
    have HCK2 := hide hck2
    clear hck2
    go_wp2_with (first | (go_at_call 77; refine (wiM _ _ _ _).mono ?_; rintro e w' ⟨rfl, rfl⟩))
    refine ((unhide HCK1) _ L0).mono ?_
    rintro e w1 ⟨rfl, hb1⟩
    have HB1 := hb0.trans (hb1.mono hb0.size)
    have g1 := g0.below hb1 g0.lt
    have l1 := g1.lt
    have L1 := L0.to hb1
    obtain ⟨z0, z1, z2, z3, z4, z5, z6, z7, z8⟩ := g1.c9
    go_wp2_with fail
    refine ((unhide HCK2) _ L1).mono ?_
    rintro e w2 ⟨rfl, hb2⟩
    go_wp2
    go_ret
    exact ⟨by rw [HV.out, if_pos ⟨q1, q2⟩, if_neg (by simp), if_pos e2, ev]; rfl, HB1.trans (hb2.mono HB1.size)⟩
  subst e2
  simp only [errV_zero] at hck2
  have HCK2 := hide hck2
  clear hck2
  go_wp2_with (first | (go_at_call 77; refine (wiM _ _ _ _).mono ?_; rintro e w' ⟨rfl, rfl⟩))
  refine ((unhide HCK1) _ L0).mono ?_
  rintro e w1 ⟨rfl, hb1⟩
  have HB1 := hb0.trans (hb1.mono hb0.size)
  have g1 := g0.below hb1 g0.lt
  have l1 := g1.lt
  have L1 := L0.to hb1
  obtain ⟨z0, z1, z2, z3, z4, z5, z6, z7, z8⟩ := g1.c9
  go_wp2_with fail
  refine ((unhide HCK2) _ L1).mono ?_
  rintro e w2 ⟨rfl, hb2⟩
  have HB2 := HB1.trans (hb2.mono HB1.size)
  have g2 := g1.below hb2 g1.lt
  have l2 := g2.lt
  clear z0 z1 z2 z3 z4 z5 z6 z7 z8
  obtain ⟨z0, z1, z2, z3, z4, z5, z6, z7, z8⟩ := g2.c9
  rcases Bool.eq_false_or_eq_true (wiB C.p 1 64) with q3 | q3
  case inr =>
    go_wp2_with (first | (go_at_call 77; refine (wiM _ _ _ _).mono ?_; rintro e w' ⟨rfl, rfl⟩))
    go_ret
    exact ⟨by rw [HV.out, if_pos ⟨q1, q2⟩, if_neg (by simp), if_neg (by simp), if_neg (by rw [q3]; simp)]; rfl, HB2⟩
  rcases Bool.eq_false_or_eq_true (wiB C.s 1 1099511627776) with q4 | q4
  case inr =>
    go_wp2_with (first | (go_at_call 77; refine (wiM _ _ _ _).mono ?_; rintro e w' ⟨rfl, rfl⟩))
    go_ret
    exact ⟨by rw [HV.out, if_pos ⟨q1, q2⟩, if_neg (by simp), if_neg (by simp), if_neg (by rw [q4]; simp)]; rfl, HB2⟩
  rcases Bool.eq_false_or_eq_true (wiB C.f 0 268435456) with q5 | q5
  case inr =>
    go_wp2_with (first | (go_at_call 77; refine (wiM _ _ _ _).mono ?_; rintro e w' ⟨rfl, rfl⟩))
    go_ret
    exact ⟨by rw [HV.out, if_pos ⟨q1, q2⟩, if_neg (by simp), if_neg (by simp), if_neg (by rw [q5]; simp)]; rfl, HB2⟩
  go_wp2_with (first | (go_at_call 77; refine (wiM _ _ _ _).mono ?_; rintro e w' ⟨rfl, rfl⟩))
  go_ret
  exact ⟨by rw [HV.out, if_pos ⟨q1, q2⟩, if_neg (by simp), if_neg (by simp), if_pos ⟨q3, q4, q5⟩]; rfl, HB2⟩
set_option maxRecDepth 100000 in
set_option maxHeartbeats 3200000 in
theorem chkR (C : Cf) (A1 A2 A3 A4 : Option Addr) (n1 n2 n3 n4 c1 c2 c3 c4 : Nat) (w : World) (L : Ly w w.heap.size C A1 A2 A3 A4 n1 n2 n3 n4) :
    Calls Tryz.prog 22 #[.agg #[.int .i64 C.r, .int .i64 C.m, .slice A1 n1 c1, .slice A2 n2 c2, .slice A3 n3 c3, .slice A4 n4 c4, .int .i64 C.p, .int .i64 C.s, .int .i64 C.f]] w fun e w' => e = .returned (.int .i64 (cfCode C)) ∧ Below w.heap.size w w' := by
  have hck1 := fun (W : World) (h : Ly W W.heap.size C A1 A2 A3 A4 n1 n2 n3 n4) => rcurve_walk C.dx C.dy A1 A2 n1 n2 c1 c2 W h.s1 h.s2 h.e1 h.e2
  have hck2 := fun (W : World) (h : Ly W W.heap.size C A1 A2 A3 A4 n1 n2 n3 n4) => rcurve_walk C.qx C.qy A3 A4 n3 n4 c3 c4 W h.s3 h.s4 h.e3 h.e4
  obtain ⟨d1, hd1⟩ : ∃ x, mcCode C.dx C.dy = x := ⟨_, rfl⟩
  obtain ⟨d2, hd2⟩ : ∃ x, mcCode C.qx C.qy = x := ⟨_, rfl⟩
  simp only [hd1] at hck1
  simp only [hd2] at hck2
  have HV : Hid (cfCode C = if wiB C.r 0 1048576 = true ∧ wiB C.m 0 268435456 = true then if d1 ≠ 0 then d1 else if d2 ≠ 0 then d2 else if wiB C.p 1 64 = true ∧ wiB C.s 1 1099511627776 = true ∧ wiB C.f 0 268435456 = true then 0 else 3 else 3) := by
    rw [← hd1, ← hd2]
    exact (rfl : cfCode C = _)
  clear hd1 hd2
  have hb0 := (Below.refl w.heap.size w).alloc (Nat.le_refl _) (.cells #[.int .i64 C.r, .int .i64 C.m, .slice A1 n1 c1, .slice A2 n2 c2, .slice A3 n3 c3, .slice A4 n4 c4, .int .i64 C.p, .int .i64 C.s, .int .i64 C.f] 26)
  have g0 := Blk.new w 26 #[.int .i64 C.r, .int .i64 C.m, .slice A1 n1 c1, .slice A2 n2 c2, .slice A3 n3 c3, .slice A4 n4 c4, .int .i64 C.p, .int .i64 C.s, .int .i64 C.f]
  have L0 := L.new (.cells #[.int .i64 C.r, .int .i64 C.m, .slice A1 n1 c1, .slice A2 n2 c2, .slice A3 n3 c3, .slice A4 n4 c4, .int .i64 C.p, .int .i64 C.s, .int .i64 C.f] 26)
  go_enter Tryz.func22, Tryz.ntmps22
  rcases Bool.eq_false_or_eq_true (wiB C.r 0 1048576) with q1 | q1
  case inr =>
    go_wp2_with (first | (go_at_call 70; refine (wiR _ _ _ _).mono ?_; rintro e w' ⟨rfl, rfl⟩))
    go_ret
    exact ⟨by rw [HV.out, if_neg (by rw [q1]; simp)]; rfl, hb0⟩
  rcases Bool.eq_false_or_eq_true (wiB C.m 0 268435456) with q2 | q2
  case inr =>
    go_wp2_with (first | (go_at_call 70; refine (wiR _ _ _ _).mono ?_; rintro e w' ⟨rfl, rfl⟩))
    go_ret
    exact ⟨by rw [HV.out, if_neg (by rw [q2]; simp)]; rfl, hb0⟩
  by_cases e1 : d1 = 0
  case neg =>
    have HCK := hide hck1
    clear hck1 hck2
    go_wp2_with (first | (go_at_call 70; refine (wiR _ _ _ _).mono ?_; rintro e w' ⟨rfl, rfl⟩))
    refine ((unhide HCK) _ L0).mono ?_
    rintro e w1 ⟨rfl, hb1⟩
    go_wp2
    go_ret
    exact ⟨by rw [HV.out, if_pos ⟨q1, q2⟩, if_pos e1]; rfl, hb0.trans (hb1.mono hb0.size)⟩
  subst e1
  have HCK1 := hide hck1
  clear hck1
  by_cases e2 : d2 = 0
  case neg =>
    have HCK2 := hide hck2
    clear hck2
    go_wp2_with (first | (go_at_call 70; refine (wiR _ _ _ _).mono ?_; rintro e w' ⟨rfl, rfl⟩))
    refine ((unhide HCK1) _ L0).mono ?_
    rintro e w1 ⟨rfl, hb1⟩
    have HB1 := hb0.trans (hb1.mono hb0.size)
    have g1 := g0.below hb1 g0.lt
    have l1 := g1.lt
    have L1 := L0.to hb1
    obtain ⟨z0, z1, z2, z3, z4, z5, z6, z7, z8⟩ := g1.c9
    go_wp2_with fail
    refine ((unhide HCK2) _ L1).mono ?_
    rintro e w2 ⟨rfl, hb2⟩
    go_wp2
    go_ret
    exact ⟨by rw [HV.out, if_pos ⟨q1, q2⟩, if_neg (by simp), if_pos e2]; rfl, HB1.trans (hb2.mono HB1.size)⟩
  subst e2
  have HCK2 := hide hck2
  clear hck2
  go_wp2_with (first | (go_at_call 70; refine (wiR _ _ _ _).mono ?_; rintro e w' ⟨rfl, rfl⟩))
  refine ((unhide HCK1) _ L0).mono ?_
  rintro e w1 ⟨rfl, hb1⟩
  have HB1 := hb0.trans (hb1.mono hb0.size)
  have g1 := g0.below hb1 g0.lt
  have l1 := g1.lt
  have L1 := L0.to hb1
  obtain ⟨z0, z1, z2, z3, z4, z5, z6, z7, z8⟩ := g1.c9
  go_wp2_with fail
  refine ((unhide HCK2) _ L1).mono ?_
  rintro e w2 ⟨rfl, hb2⟩
  have HB2 := HB1.trans (hb2.mono HB1.size)
  have g2 := g1.below hb2 g1.lt
  have l2 := g2.lt
  clear z0 z1 z2 z3 z4 z5 z6 z7 z8
  obtain ⟨z0, z1, z2, z3, z4, z5, z6, z7, z8⟩ := g2.c9
  rcases Bool.eq_false_or_eq_true (wiB C.p 1 64) with q3 | q3
  case inr =>
    go_wp2_with (first | (go_at_call 70; refine (wiR _ _ _ _).mono ?_; rintro e w' ⟨rfl, rfl⟩))
    go_ret
    exact ⟨by rw [HV.out, if_pos ⟨q1, q2⟩, if_neg (by simp), if_neg (by simp), if_neg (by rw [q3]; simp)]; rfl, HB2⟩
  rcases Bool.eq_false_or_eq_true (wiB C.s 1 1099511627776) with q4 | q4
  case inr =>
    go_wp2_with (first | (go_at_call 70; refine (wiR _ _ _ _).mono ?_; rintro e w' ⟨rfl, rfl⟩))
    go_ret
    exact ⟨by rw [HV.out, if_pos ⟨q1, q2⟩, if_neg (by simp), if_neg (by simp), if_neg (by rw [q4]; simp)]; rfl, HB2⟩
  rcases Bool.eq_false_or_eq_true (wiB C.f 0 268435456) with q5 | q5
  case inr =>
    go_wp2_with (first | (go_at_call 70; refine (wiR _ _ _ _).mono ?_; rintro e w' ⟨rfl, rfl⟩))
    go_ret
    exact ⟨by rw [HV.out, if_pos ⟨q1, q2⟩, if_neg (by simp), if_neg (by simp), if_neg (by rw [q5]; simp)]; rfl, HB2⟩
  go_wp2_with (first | (go_at_call 70; refine (wiR _ _ _ _).mono ?_; rintro e w' ⟨rfl, rfl⟩))
  go_ret
  exact ⟨by rw [HV.out, if_pos ⟨q1, q2⟩, if_neg (by simp), if_neg (by simp), if_pos ⟨q3, q4, q5⟩]; rfl, HB2⟩
end Go.Proofs.YtpfkiohknpeifaaGreat
