/- The walks of the curve's Check and the reference's. -/
import Derived.Test.YtmmplfokidnpnaaMBase
namespace Go.Proofs.Ytmmplfokidnpnaa
open Go.RowKit
theorem cvCode_shape {X Y : List Int} (h : X.length ≠ Y.length) : cvCode X Y = 11 := by unfold cvCode; rw [if_pos h]
theorem cvCode_large {X Y : List Int} (h : X.length = Y.length) (h2 : 32 < X.length) : cvCode X Y = 4 := by unfold cvCode; rw [if_neg (by omega), if_pos h2]
theorem cvCode_few {X Y : List Int} (h : X.length = Y.length) (h2 : X.length < 2) : cvCode X Y = 11 := by unfold cvCode; rw [if_neg (by omega), if_neg (by omega), if_pos h2]
theorem cvCode_fe {X Y : List Int} (h : X.length = Y.length) (h2 : ¬ 32 < X.length) (h3 : ¬ X.length < 2) : cvCode X Y = fe (cvE X Y) X.length := by unfold cvCode; rw [if_neg (by omega), if_neg (by omega), if_neg (by omega)]
set_option maxRecDepth 100000 in
set_option maxHeartbeats 1600000 in
theorem cvchk_walk (X Y : List Int) (AX AY : Option Addr) (n m cX cY : Nat) (w : World) (SX : Sl w w.heap.size 1 AX (rows X)) (SY : Sl w w.heap.size 1 AY (rows Y)) (hn : n = X.length) (hm : m = Y.length) :
    Calls Try.prog 68 #[.agg #[.slice AX n cX, .slice AY m cY]] w fun e w' => e = .returned (errV (cvCode X Y)) ∧ Below w.heap.size w w' := by
  have HX := Lib.hid hn
  have HY := Lib.hid hm
  clear hn hm
  have hb0 := (Below.refl w.heap.size w).alloc (Nat.le_refl _) (.cells #[.slice AX n cX, .slice AY m cY] 24)
  have g0 := Blk.new w 24 #[.slice AX n cX, .slice AY m cY]
  by_cases h1 : n = m
  case neg =>
    have hc := Lib.hid (cvCode_shape (X := X) (Y := Y) (by rw [← HX.out, ← HY.out]; exact h1))
    go_enter Try.func68, Try.ntmps68
    go_wp2
    go_ret
    exact ⟨by rw [hc.out]; rfl, hb0⟩
  subst h1
  by_cases h2 : 32 < n
  · have hc := Lib.hid (cvCode_large (X := X) (Y := Y) (by rw [← HX.out, ← HY.out]) (by rw [← HX.out]; exact h2))
    go_enter Try.func68, Try.ntmps68
    go_wp2
    go_ret
    exact ⟨by rw [hc.out]; rfl, hb0⟩
  by_cases h3 : n < 2
  · have hc := Lib.hid (cvCode_few (X := X) (Y := Y) (by rw [← HX.out, ← HY.out]) (by rw [← HX.out]; exact h3))
    go_enter Try.func68, Try.ntmps68
    go_wp2
    go_ret
    exact ⟨by rw [hc.out]; rfl, hb0⟩
  have HC := Lib.hid (cvCode_fe (X := X) (Y := Y) (by rw [← HX.out, ← HY.out]) (by rw [← HX.out]; exact h2) (by rw [← HX.out]; exact h3))
  obtain ⟨ax, rfl⟩ := SX.ptr (by rw [← HX.out]; omega)
  obtain ⟨ay, rfl⟩ := SY.ptr (by rw [← HY.out]; omega)
  go_enter Try.func68, Try.ntmps68
  go_wp2
  go_loopw [28] (fun i wr => ∃ k : Nat, k ≤ n ∧ i = .int .i64 k ∧ Hid (∀ j, j < k → cvE X Y j = 0) ∧ Blk wr w.heap.size 24 #[.slice (some ax) n cX, .slice (some ay) n cY] ∧ Below w.heap.size w wr) (fun i _ => n - (intOf i).toNat)
  case atStart => exact ⟨0, Nat.zero_le _, rfl, (fun j h => by omega), g0, hb0⟩
  case round =>
    clear g0 hb0
    obtain ⟨k, hk, rfl, hg, g1, hb⟩ := hrel
    have hsz := g1.lt
    obtain ⟨y0, y1⟩ := g1.c2
    by_cases hlt : k < n
    · have hkl : k < X.length := by have := HX.out; omega
      obtain ⟨p, hpa, hpb, c0⟩ := (SX.below hb).at1' hkl
      obtain ⟨q, hqa, hqb, d0⟩ := (SY.below hb).at1' (k := k) (by have := HY.out; omega)
      have hpb1 : p.block < wr.heap.size := by omega
      have hqb1 : q.block < wr.heap.size := by omega
      by_cases hr : g X k < -1073741824 ∨ 1073741824 < g X k ∨ g Y k < -1073741824 ∨ 1073741824 < g Y k
      · have he : cvE X Y k = 3 := by unfold cvE; rw [if_pos hr]
        have HE := Lib.hid (show cvCode X Y = 3 by rw [HC.out, fe_hit hkl hg.out (by rw [he]; decide), he])
        clear he
        go_wp2
        all_goals first
          | (go_ret
             exact ⟨by rw [HE.out]; rfl, by repeat (first | exact hb | refine Below.alloc ?_ (by first | omega | (simp; omega)) _)⟩)
          | omega
      · have hr1 : ¬ g X k < -1073741824 := by omega
        have hr2 : ¬ 1073741824 < g X k := by omega
        have hr3 : ¬ g Y k < -1073741824 := by omega
        have hr4 : ¬ 1073741824 < g Y k := by omega
        by_cases hk0 : 0 < k
        · obtain ⟨p', hpa', hpb', c1⟩ := (SX.below hb).at1' (k := k - 1) (by omega)
          obtain ⟨q', hqa', hqb', d1⟩ := (SY.below hb).at1' (k := k - 1) (by have := HY.out; omega)
          have hpb1' : p'.block < wr.heap.size := by omega
          have hqb1' : q'.block < wr.heap.size := by omega
          have ek : ((k : Int) - 1).toNat = k - 1 := by omega
          rcases Int.lt_or_le (g X (k - 1)) (g X k) with hx | hx
          · have dx : decide (g X k ≤ g X (k - 1)) = false := decide_eq_false (by omega)
            rcases Int.lt_or_le (g Y k) (g Y (k - 1)) with hy | hy
            · have dy : decide (g Y k < g Y (k - 1)) = true := decide_eq_true hy
              have he : cvE X Y k = 26 := by unfold cvE; rw [if_neg hr, if_pos (by omega)]
              have HE := Lib.hid (show cvCode X Y = 26 by rw [HC.out, fe_hit hkl hg.out (by rw [he]; decide), he])
              clear he hr
              go_wp2
              go_ret
              exact ⟨by rw [HE.out]; rfl, by repeat (first | exact hb | refine Below.alloc ?_ (by first | omega | (simp; omega)) _)⟩
            · have dy : decide (g Y k < g Y (k - 1)) = false := decide_eq_false (by omega)
              have HE := Lib.hid (show cvE X Y k = 0 by unfold cvE; rw [if_neg hr, if_neg (by omega)])
              clear hr
              go_wp2
              go_roundw
              case rel => exact ⟨k + 1, by omega, by go_num, (fun j hj => by
                by_cases hjk : j = k
                · subst hjk; exact HE.out
                · exact hg.out j (by omega)), by repeat (first | exact g1 | refine Blk.alloc ?_ _), by repeat (first | exact hb | refine Below.alloc ?_ (by first | omega | (simp; omega)) _)⟩
              case measure => simp [intOf]; omega
          · have dx : decide (g X k ≤ g X (k - 1)) = true := decide_eq_true (by omega)
            have he : cvE X Y k = 26 := by unfold cvE; rw [if_neg hr, if_pos (by omega)]
            have HE := Lib.hid (show cvCode X Y = 26 by rw [HC.out, fe_hit hkl hg.out (by rw [he]; decide), he])
            clear he hr
            go_wp2
            go_ret
            exact ⟨by rw [HE.out]; rfl, by repeat (first | exact hb | refine Below.alloc ?_ (by first | omega | (simp; omega)) _)⟩
        · obtain rfl : k = 0 := by omega
          have HE := Lib.hid (show cvE X Y 0 = 0 by unfold cvE; rw [if_neg hr, if_neg (by omega)])
          clear hr
          go_wp2
          go_roundw
          case rel => exact ⟨0 + 1, by omega, by go_num, (fun j hj => by
            obtain rfl : j = 0 := by omega
            exact HE.out), by repeat (first | exact g1 | refine Blk.alloc ?_ _), by repeat (first | exact hb | refine Below.alloc ?_ (by first | omega | (simp; omega)) _)⟩
          case measure => simp [intOf]; omega
    · obtain rfl : k = n := by omega
      have HE := Lib.hid (show cvCode X Y = 0 by rw [HC.out]; exact fe_none fun i hi => hg.out i (by have := HX.out; omega))
      go_wp2
      go_ret
      exact ⟨by rw [HE.out]; rfl, hb⟩
set_option maxRecDepth 100000 in
set_option maxHeartbeats 1600000 in
theorem rcvchk_walk (X Y : List Int) (AX AY : Option Addr) (n m cX cY : Nat) (w : World) (SX : Sl w w.heap.size 1 AX (rows X)) (SY : Sl w w.heap.size 1 AY (rows Y)) (hn : n = X.length) (hm : m = Y.length) :
    Calls Try.prog 66 #[.agg #[.slice AX n cX, .slice AY m cY]] w fun e w' => e = .returned (.int .i64 (cvCode X Y)) ∧ Below w.heap.size w w' := by
  have HX := Lib.hid hn
  have HY := Lib.hid hm
  clear hn hm
  have hb0 := (Below.refl w.heap.size w).alloc (Nat.le_refl _) (.cells #[.slice AX n cX, .slice AY m cY] 24)
  have g0 := Blk.new w 24 #[.slice AX n cX, .slice AY m cY]
  by_cases h1 : n = m
  case neg =>
    have hc := Lib.hid (cvCode_shape (X := X) (Y := Y) (by rw [← HX.out, ← HY.out]; exact h1))
    go_enter Try.func66, Try.ntmps66
    go_wp2
    go_ret
    exact ⟨by rw [hc.out]; rfl, hb0⟩
  subst h1
  by_cases h2 : 32 < n
  · have hc := Lib.hid (cvCode_large (X := X) (Y := Y) (by rw [← HX.out, ← HY.out]) (by rw [← HX.out]; exact h2))
    go_enter Try.func66, Try.ntmps66
    go_wp2
    go_ret
    exact ⟨by rw [hc.out]; rfl, hb0⟩
  by_cases h3 : n < 2
  · have hc := Lib.hid (cvCode_few (X := X) (Y := Y) (by rw [← HX.out, ← HY.out]) (by rw [← HX.out]; exact h3))
    go_enter Try.func66, Try.ntmps66
    go_wp2
    go_ret
    exact ⟨by rw [hc.out]; rfl, hb0⟩
  have HC := Lib.hid (cvCode_fe (X := X) (Y := Y) (by rw [← HX.out, ← HY.out]) (by rw [← HX.out]; exact h2) (by rw [← HX.out]; exact h3))
  obtain ⟨ax, rfl⟩ := SX.ptr (by rw [← HX.out]; omega)
  obtain ⟨ay, rfl⟩ := SY.ptr (by rw [← HY.out]; omega)
  go_enter Try.func66, Try.ntmps66
  go_wp2
  go_loopw [3] (fun i wr => ∃ k : Nat, k ≤ n ∧ i = .int .i64 k ∧ Hid (∀ j, j < k → cvE X Y j = 0) ∧ Blk wr w.heap.size 24 #[.slice (some ax) n cX, .slice (some ay) n cY] ∧ Below w.heap.size w wr) (fun i _ => n - (intOf i).toNat)
  case atStart => exact ⟨0, Nat.zero_le _, rfl, (fun j h => by omega), g0, hb0⟩
  case round =>
    clear g0 hb0
    obtain ⟨k, hk, rfl, hg, g1, hb⟩ := hrel
    have hsz := g1.lt
    obtain ⟨y0, y1⟩ := g1.c2
    by_cases hlt : k < n
    · have hkl : k < X.length := by have := HX.out; omega
      obtain ⟨p, hpa, hpb, c0⟩ := (SX.below hb).at1' hkl
      obtain ⟨q, hqa, hqb, d0⟩ := (SY.below hb).at1' (k := k) (by have := HY.out; omega)
      have hpb1 : p.block < wr.heap.size := by omega
      have hqb1 : q.block < wr.heap.size := by omega
      by_cases hr : g X k < -1073741824 ∨ 1073741824 < g X k ∨ g Y k < -1073741824 ∨ 1073741824 < g Y k
      · have he : cvE X Y k = 3 := by unfold cvE; rw [if_pos hr]
        have HE := Lib.hid (show cvCode X Y = 3 by rw [HC.out, fe_hit hkl hg.out (by rw [he]; decide), he])
        clear he
        go_wp2
        all_goals first
          | (go_ret
             exact ⟨by rw [HE.out]; rfl, by repeat (first | exact hb | refine Below.alloc ?_ (by first | omega | (simp; omega)) _)⟩)
          | omega
      · have hr1 : ¬ g X k < -1073741824 := by omega
        have hr2 : ¬ 1073741824 < g X k := by omega
        have hr3 : ¬ g Y k < -1073741824 := by omega
        have hr4 : ¬ 1073741824 < g Y k := by omega
        by_cases hk0 : 0 < k
        · obtain ⟨p', hpa', hpb', c1⟩ := (SX.below hb).at1' (k := k - 1) (by omega)
          obtain ⟨q', hqa', hqb', d1⟩ := (SY.below hb).at1' (k := k - 1) (by have := HY.out; omega)
          have hpb1' : p'.block < wr.heap.size := by omega
          have hqb1' : q'.block < wr.heap.size := by omega
          have ek : ((k : Int) - 1).toNat = k - 1 := by omega
          rcases Int.lt_or_le (g X (k - 1)) (g X k) with hx | hx
          · have dx : decide (g X k ≤ g X (k - 1)) = false := decide_eq_false (by omega)
            rcases Int.lt_or_le (g Y k) (g Y (k - 1)) with hy | hy
            · have dy : decide (g Y k < g Y (k - 1)) = true := decide_eq_true hy
              have he : cvE X Y k = 26 := by unfold cvE; rw [if_neg hr, if_pos (by omega)]
              have HE := Lib.hid (show cvCode X Y = 26 by rw [HC.out, fe_hit hkl hg.out (by rw [he]; decide), he])
              clear he hr
              go_wp2
              go_quiet (fail)
              go_wp2
              go_ret
              exact ⟨by rw [HE.out]; rfl, below_drewN hb nq⟩
            · have dy : decide (g Y k < g Y (k - 1)) = false := decide_eq_false (by omega)
              have HE := Lib.hid (show cvE X Y k = 0 by unfold cvE; rw [if_neg hr, if_neg (by omega)])
              clear hr
              go_wp2
              go_quiet (fail)
              go_wp2
              go_roundw
              case rel => exact ⟨k + 1, by omega, by go_num, (fun j hj => by
                by_cases hjk : j = k
                · subst hjk; exact HE.out
                · exact hg.out j (by omega)), g1.drewN nq, below_drewN hb nq⟩
              case measure => simp [intOf]; omega
          · have dx : decide (g X k ≤ g X (k - 1)) = true := decide_eq_true (by omega)
            have he : cvE X Y k = 26 := by unfold cvE; rw [if_neg hr, if_pos (by omega)]
            have HE := Lib.hid (show cvCode X Y = 26 by rw [HC.out, fe_hit hkl hg.out (by rw [he]; decide), he])
            clear he hr
            go_wp2
            go_quiet (fail)
            go_wp2
            go_ret
            exact ⟨by rw [HE.out]; rfl, below_drewN hb nq⟩
        · obtain rfl : k = 0 := by omega
          have HE := Lib.hid (show cvE X Y 0 = 0 by unfold cvE; rw [if_neg hr, if_neg (by omega)])
          clear hr
          go_wp2
          go_quiet (fail)
          go_wp2
          go_roundw
          case rel => exact ⟨0 + 1, by omega, by go_num, (fun j hj => by
            obtain rfl : j = 0 := by omega
            exact HE.out), g1.drewN nq, below_drewN hb nq⟩
          case measure => simp [intOf]; omega
    · obtain rfl : k = n := by omega
      have HE := Lib.hid (show cvCode X Y = 0 by rw [HC.out]; exact fe_none fun i hi => hg.out i (by have := HX.out; omega))
      go_wp2
      go_ret
      exact ⟨by rw [HE.out]; rfl, hb⟩
end Go.Proofs.Ytmmplfokidnpnaa
