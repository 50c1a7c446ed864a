/- The walk of the statement DeviceWords. -/
import Derived.Test.YtnoihjjenceeaaaDoorDRWords
import Derived.Test.YtnoihjjenceeaaaDoorDLaid
namespace Go.Proofs.YtnoihjjenceeaaaDoor
open Go.RowKit
theorem flat_one' (l : List Int) : (l.map fun z : Int => [Value.int .i64 z]).flatten = l.map (Value.int .i64) := by
  induction l with
  | nil => rfl
  | cons x l ih => simp [ih]
set_option maxRecDepth 100000 in
theorem words_bad1 (a t : Int) (w : World) (h : stOk a = false) : Calls Tryd.prog 15 #[.int .i64 a, .int .i64 t] w fun e w' => e = .returned (.tuple #[.slice none 0 0, .iface 31 (.int .i64 3)]) ∧ w = w' := by
  have k1 := fun W => known_walk a W
  rw [h] at k1
  have K1 := hide k1
  clear k1 h
  go_enter Tryd.func15, Tryd.ntmps15
  go_wp2_with fail
  go_step3
  go_wp2_with fail
  refine ((unhide K1) _).mono ?_
  rintro e w1 ⟨rfl, rfl⟩
  go_wp2
  rw [Exit.noGoto_ret]
  go_ret2
  exact ⟨rfl, rfl⟩
set_option maxRecDepth 100000 in
theorem words_bad2 (a t : Int) (w : World) (ha : stOk a = true) (h : stOk t = false) : Calls Tryd.prog 15 #[.int .i64 a, .int .i64 t] w fun e w' => e = .returned (.tuple #[.slice none 0 0, .iface 31 (.int .i64 3)]) ∧ w = w' := by
  have k1 := fun W => known_walk a W
  have k2 := fun W => known_walk t W
  rw [ha] at k1
  rw [h] at k2
  have K1 := hide k1
  have K2 := hide k2
  clear k1 k2 h ha
  go_enter Tryd.func15, Tryd.ntmps15
  go_wp2_with fail
  go_step3
  go_wp2_with fail
  refine ((unhide K1) _).mono ?_
  rintro e w1 ⟨rfl, rfl⟩
  go_wp2_with fail
  refine ((unhide K2) _).mono ?_
  rintro e w2 ⟨rfl, rfl⟩
  go_wp2
  rw [Exit.noGoto_ret]
  go_ret2
  exact ⟨rfl, rfl⟩
set_option maxRecDepth 100000 in
set_option maxHeartbeats 3200000 in
theorem deviceWords_walk (a t : Int) (w : World) (hc : Cw w) :
    Calls Tryd.prog 4 #[.int .i64 a, .int .i64 t] w fun e w' => e = .returned (.bool true) ∧ Below w.heap.size w w' := by
  have hs := fun W => rstate_walk a W
  have ht := fun W => rstate_walk t W
  by_cases ha : stOk a = true
  case neg =>
    have ha : stOk a = false := by simpa using ha
    have hw := fun W => words_bad1 a t W ha
    rw [ha] at hs
    have HW := hide hw
    have HS := hide hs
    clear hw hs ht ha
    go_enter Tryd.func4, Tryd.ntmps4
    go_wp2_with fail
    refine (awakeD_walk _ hc).mono ?_
    rintro e w1 ⟨rfl, hb1⟩
    go_wp2_with fail
    refine ((unhide HW) _).mono ?_
    rintro e w2 ⟨rfl, rfl⟩
    go_wp2_with fail
    refine ((unhide HS) _).mono ?_
    rintro e w3 ⟨rfl, rfl⟩
    go_wp2_with fail
    refine (is_walk 3 _).mono ?_
    rintro e w4 ⟨rfl, rfl⟩
    go_wp2
    go_ret
    exact ⟨rfl, hb1⟩
  by_cases hto : stOk t = true
  case neg =>
    have hto : stOk t = false := by simpa using hto
    have hw := fun W => words_bad2 a t W ha hto
    rw [ha] at hs
    rw [hto] at ht
    have HW := hide hw
    have HS := hide hs
    have HT := hide ht
    clear hw hs ht ha hto
    go_enter Tryd.func4, Tryd.ntmps4
    go_wp2_with fail
    refine (awakeD_walk _ hc).mono ?_
    rintro e w1 ⟨rfl, hb1⟩
    go_wp2_with fail
    refine ((unhide HW) _).mono ?_
    rintro e w2 ⟨rfl, rfl⟩
    go_wp2_with fail
    refine ((unhide HS) _).mono ?_
    rintro e w3 ⟨rfl, rfl⟩
    go_wp2_with fail
    refine ((unhide HT) _).mono ?_
    rintro e w4 ⟨rfl, rfl⟩
    go_wp2_with fail
    refine (is_walk 3 _).mono ?_
    rintro e w5 ⟨rfl, rfl⟩
    go_wp2
    go_ret
    exact ⟨rfl, hb1⟩
  have h1 := stOk_iff.1 ha
  have h2 := stOk_iff.1 hto
  rw [ha] at hs
  rw [hto] at ht
  obtain ⟨an, rfl⟩ : ∃ n : Nat, a = (n : Int) := ⟨a.toNat, by omega⟩
  obtain ⟨tn, rfl⟩ : ∃ n : Nat, t = (n : Int) := ⟨t.toNat, by omega⟩
  have ha8 : an < 8 := by omega
  have ht8 : tn < 8 := by omega
  have hw := fun W (h : Cw W) => words_walk an tn W ha8 ht8 h
  have hr := fun W => rwords_walk an tn W ha8
  have hi := rwF_is an ha8 tn ht8
  have hl5 : (ways an tn).length ≤ 1000000 := by
    have hp := pth_len (fin (tn : Int)) (gI (fin (tn : Int)) (an : Int)).toNat (an : Int)
    have hd : gI (fin (tn : Int)) (an : Int) ≤ 8 := (gI_bd (by decide) (tbl_len tn ht8 rounds (Nat.le_refl _)).2 _).2
    show (pth _ _ _).length ≤ _
    omega
  obtain ⟨d, hd⟩ : ∃ d, gI (fin (tn : Int)) (an : Int) = d := ⟨_, rfl⟩
  obtain ⟨l, hl⟩ : ∃ l, ways (an : Int) (tn : Int) = l := ⟨_, rfl⟩
  rw [hd, hl] at hi
  rw [hl] at hl5
  simp only [hd, hl] at hw
  simp only [hi] at hr
  have HW := hide hw
  have HR := hide hr
  have HS := hide hs
  have HT := hide ht
  have HL := Lib.hid hl5
  clear hw hr hs ht ha hto h1 h2 hi hd hl ha8 ht8 hl5
  go_enter Tryd.func4, Tryd.ntmps4
  go_wp2_with fail
  refine (awakeD_walk _ hc).mono ?_
  rintro e w1 ⟨rfl, hb1⟩
  have hc1 := hc.below hb1 hc.lt
  go_wp2_with fail
  refine ((unhide HW) _ hc1).mono ?_
  rintro e w2 ⟨hb2, hres⟩
  have hb3 := hb1.trans (hb2.mono hb1.size)
  clear hc hc1
  rcases hres with ⟨hneg, rfl⟩ | ⟨hpos, v, rfl, hown⟩
  · clear hb1 hb2
    go_wp2_with fail
    refine ((unhide HS) _).mono ?_
    rintro e w3 ⟨rfl, rfl⟩
    go_wp2_with fail
    refine ((unhide HT) _).mono ?_
    rintro e w4 ⟨rfl, rfl⟩
    go_wp2_with fail
    refine ((unhide HR) _).mono ?_
    rintro e w5 ⟨hb5, hres⟩
    have hb6 := hb3.trans (hb5.mono hb3.size)
    rw [if_neg (by omega)] at hres
    rcases hres with ⟨_, rfl⟩ | ⟨_, _, h, _⟩
    case inr => cases h
    go_wp2_with fail
    refine (is_walk 23 _).mono ?_
    rintro e w6 ⟨rfl, rfl⟩
    go_wp2
    go_ret
    exact ⟨rfl, hb6⟩
  · obtain ⟨n, hn⟩ : ∃ n, l.length = n := ⟨_, rfl⟩
    have hown2 := hown
    rw [hn] at hown2
    obtain ⟨A, c, rfl, hsl, _⟩ := Sl.of_own (rs := l.map fun z : Int => [Value.int .i64 z]) (size := 1) (by rw [flat_one']; exact hown) (by simp) (by simp)
    rw [hn] at hown ⊢
    have HN := Lib.hid hn
    clear hb1 hb2 hown2 hn
    go_wp2_with fail
    refine ((unhide HS) _).mono ?_
    rintro e w3 ⟨rfl, rfl⟩
    go_wp2_with fail
    refine ((unhide HT) _).mono ?_
    rintro e w4 ⟨rfl, rfl⟩
    go_wp2_with fail
    refine ((unhide HR) _).mono ?_
    rintro e w5 ⟨hb5, hres⟩
    have hb6 := hb3.trans (hb5.mono hb3.size)
    rw [if_pos (by omega)] at hres
    rcases hres with ⟨h, _⟩ | ⟨l2, v2, h, rfl, hown2⟩
    · cases h
    · obtain rfl : l = l2 := by injection h
      obtain ⟨A2, c2, rfl, hsl2, _⟩ := Sl.of_own (rs := l.map fun z : Int => [Value.int .i64 z]) (size := 1) (by rw [flat_one']; exact hown2) (by simp) (by simp)
      rw [HN.out] at hown2 ⊢
      have s1 : Sl w5 w5.heap.size 1 A (l.map fun z : Int => [Value.int .i64 z]) := (hsl.below hb5).more hb5.size
      have hq := ints_walk l A A2 n c n c2 w5 s1 hsl2 HN.out.symm HN.out.symm HL.out
      have HQ := hide hq
      clear hq s1 hsl hsl2 hown hown2 hpos hb3 hb5
      go_wp2_with fail
      refine (unhide HQ).mono ?_
      rintro e w6 ⟨rfl, hb7⟩
      have hb8 := hb6.trans (hb7.mono hb6.size)
      go_wp2
      go_ret
      exact ⟨rfl, hb8⟩
end Go.Proofs.YtnoihjjenceeaaaDoor
