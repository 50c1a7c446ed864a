/- The walk of the reference's Run, where something is wrong with what it is asked for. -/
import Derived.Test.YtgnojdiecgfeaaaRunBad
namespace Go.Proofs.Ytgnojdiecgfeaaa
open Go.RowKit

set_option maxRecDepth 100000 in
set_option maxHeartbeats 3200000 in
theorem rrun_bad (x : Nat → Lg) (f o : Nat → Int) (per dead trip : Int) (w : World) (hc : rcode (x 0) (x 1) (x 2) (f 0) (o 0) (f 1) (o 1) (f 2) (o 2) per dead trip ≠ 0) :
    Calls Try.prog 33 #[.agg (cellsL x), .agg (cellsP f o), .int .i64 per, .int .i64 dead, .int .i64 trip] w fun e w' =>
      e = .returned (.tuple #[.agg #[.int .i64 0, .bool false, .bool false, .bool false, .bool false, .bool false, .bool false, .slice none 0 0], .agg #[.int .i64 0, .int .i64 0, .int .i64 0, .int .i64 0, .int .i64 0, .int .i64 0], .int .i64 (rcode (x 0) (x 1) (x 2) (f 0) (o 0) (f 1) (o 1) (f 2) (o 2) per dead trip)]) ∧ Below w.heap.size w w' := by
  unfold cellsL cellsP
  have iy0 := idx51_0 (.int .i64 (f 0)) (.int .i64 (o 0)) (.int .i64 (f 1)) (.int .i64 (o 1)) (.int .i64 (f 2)) (.int .i64 (o 2))
  have iy1 := idx51_1 (.int .i64 (f 0)) (.int .i64 (o 0)) (.int .i64 (f 1)) (.int .i64 (o 1)) (.int .i64 (f 2)) (.int .i64 (o 2))
  have iy2 := idx51_2 (.int .i64 (f 0)) (.int .i64 (o 0)) (.int .i64 (f 1)) (.int .i64 (o 1)) (.int .i64 (f 2)) (.int .i64 (o 2))
  have g0 := (((Blk.new w 48 #[.int .i64 (x 0).s, .int .i64 (x 0).j, .int .i64 (x 1).s, .int .i64 (x 1).j, .int .i64 (x 2).s, .int .i64 (x 2).j]).alloc (.cells #[.int .i64 (f 0), .int .i64 (o 0), .int .i64 (f 1), .int .i64 (o 1), .int .i64 (f 2), .int .i64 (o 2)] 51)).alloc (.cells #[.int .i64 0, .bool false, .bool false, .bool false, .bool false, .bool false, .bool false, .slice none 0 0] 25)).alloc (.cells #[.int .i64 0, .int .i64 0, .int .i64 0, .int .i64 0, .int .i64 0, .int .i64 0] 48)
  have g1 := ((Blk.new' (w := w.alloc (.cells #[.int .i64 (x 0).s, .int .i64 (x 0).j, .int .i64 (x 1).s, .int .i64 (x 1).j, .int .i64 (x 2).s, .int .i64 (x 2).j] 48)) (t := 51) (cs := #[.int .i64 (f 0), .int .i64 (o 0), .int .i64 (f 1), .int .i64 (o 1), .int .i64 (f 2), .int .i64 (o 2)]) (g := w.heap.size + 1) (by simp)).alloc (.cells #[.int .i64 0, .bool false, .bool false, .bool false, .bool false, .bool false, .bool false, .slice none 0 0] 25)).alloc (.cells #[.int .i64 0, .int .i64 0, .int .i64 0, .int .i64 0, .int .i64 0, .int .i64 0] 48)
  have g2 := (Blk.new' (w := (w.alloc (.cells #[.int .i64 (x 0).s, .int .i64 (x 0).j, .int .i64 (x 1).s, .int .i64 (x 1).j, .int .i64 (x 2).s, .int .i64 (x 2).j] 48)).alloc (.cells #[.int .i64 (f 0), .int .i64 (o 0), .int .i64 (f 1), .int .i64 (o 1), .int .i64 (f 2), .int .i64 (o 2)] 51)) (t := 25) (cs := #[.int .i64 0, .bool false, .bool false, .bool false, .bool false, .bool false, .bool false, .slice none 0 0]) (g := w.heap.size + 1 + 1) (by simp)).alloc (.cells #[.int .i64 0, .int .i64 0, .int .i64 0, .int .i64 0, .int .i64 0, .int .i64 0] 48)
  have g3 := (Blk.new' (w := ((w.alloc (.cells #[.int .i64 (x 0).s, .int .i64 (x 0).j, .int .i64 (x 1).s, .int .i64 (x 1).j, .int .i64 (x 2).s, .int .i64 (x 2).j] 48)).alloc (.cells #[.int .i64 (f 0), .int .i64 (o 0), .int .i64 (f 1), .int .i64 (o 1), .int .i64 (f 2), .int .i64 (o 2)] 51)).alloc (.cells #[.int .i64 0, .bool false, .bool false, .bool false, .bool false, .bool false, .bool false, .slice none 0 0] 25)) (t := 48) (cs := #[.int .i64 0, .int .i64 0, .int .i64 0, .int .i64 0, .int .i64 0, .int .i64 0]) (g := w.heap.size + 1 + 1 + 1) (by simp))
  have hb0 := ((((Below.refl w.heap.size w).alloc (Nat.le_refl _) (.cells #[.int .i64 (x 0).s, .int .i64 (x 0).j, .int .i64 (x 1).s, .int .i64 (x 1).j, .int .i64 (x 2).s, .int .i64 (x 2).j] 48)).alloc (by simp) (.cells #[.int .i64 (f 0), .int .i64 (o 0), .int .i64 (f 1), .int .i64 (o 1), .int .i64 (f 2), .int .i64 (o 2)] 51)).alloc (by simp <;> omega) (.cells #[.int .i64 0, .bool false, .bool false, .bool false, .bool false, .bool false, .bool false, .slice none 0 0] 25)).alloc (by simp <;> omega) (.cells #[.int .i64 0, .int .i64 0, .int .i64 0, .int .i64 0, .int .i64 0, .int .i64 0] 48)
  cases hrg : rngOk (x 0) (x 1) (x 2) per dead with
  | false =>
    have hcd : rcode (x 0) (x 1) (x 2) (f 0) (o 0) (f 1) (o 1) (f 2) (o 2) per dead trip = 3 := by simp [rcode, hrg]
    have HCD := Lib.hid hcd
    have hrr := fun W => rranges_bad (x 0).s (x 0).j (x 1).s (x 1).j (x 2).s (x 2).j per dead W hrg
    have HR := hide hrr
    clear hcd hrr hrg hc
    go_enter Try.func33, Try.ntmps33
    go_wp2_with fail
    refine ((unhide HR) _).mono ?_
    rintro e w1 ⟨rfl, hb1⟩
    have hb := hb0.trans (hb1.mono hb0.size)
    have h2 := g2.below hb1 g2.lt
    have h3 := g3.below hb1 g3.lt
    clear hb0 hb1 g0 g1 g2 g3
    obtain ⟨u0, u1, u2, u3, u4, u5, u6, u7⟩ := h2.c8
    obtain ⟨z0, z1, z2, z3, z4, z5⟩ := h3.c6
    have fr0 := h2.frozen 0
    have fr1 := h2.frozen 1
    have fr2 := h2.frozen 2
    have fr3 := h2.frozen 3
    have fr4 := h2.frozen 4
    have fr5 := h2.frozen 5
    have fr6 := h2.frozen 6
    have fr7 := h2.frozen 7
    have fz0 := h3.frozen 0
    have fz1 := h3.frozen 1
    have fz2 := h3.frozen 2
    have fz3 := h3.frozen 3
    have fz4 := h3.frozen 4
    have fz5 := h3.frozen 5
    go_wp2
    refine bodyPost_ret (ret_cct rfl rfl rfl (load_gates ((((((((((((((h2.set_ 0 _).set_ 1 _).set_ 2 _).set_ 3 _).set_ 4 _).set_ 5 _).set_ 6 _).set_ 7 _).far (by simp <;> omega) _).far (by simp <;> omega) _).far (by simp <;> omega) _).far (by simp <;> omega) _).far (by simp <;> omega) _).far (by simp <;> omega) _)) (load_legs ((((((((((((((h3.far (by simp <;> omega) _).far (by simp <;> omega) _).far (by simp <;> omega) _).far (by simp <;> omega) _).far (by simp <;> omega) _).far (by simp <;> omega) _).far (by simp <;> omega) _).far (by simp <;> omega) _).set_ 0 _).set_ 1 _).set_ 2 _).set_ 3 _).set_ 4 _).set_ 5 _))) rfl ⟨?_, ((((((((((((((hb.setCell (by simp <;> omega) _).setCell (by simp <;> omega) _).setCell (by simp <;> omega) _).setCell (by simp <;> omega) _).setCell (by simp <;> omega) _).setCell (by simp <;> omega) _).setCell (by simp <;> omega) _).setCell (by simp <;> omega) _).setCell (by simp <;> omega) _).setCell (by simp <;> omega) _).setCell (by simp <;> omega) _).setCell (by simp <;> omega) _).setCell (by simp <;> omega) _).setCell (by simp <;> omega) _)⟩
    rw [HCD.out]
    rfl
  | true =>
    have hrr := rranges_good x per dead hrg
    have HR := hide hrr
    clear hrr
    by_cases htr : 0 ≤ trip ∧ trip ≤ per
    · have hcd : rcode (x 0) (x 1) (x 2) (f 0) (o 0) (f 1) (o 1) (f 2) (o 2) per dead trip = 11 := by
        unfold rcode at hc ⊢
        rw [hrg] at hc ⊢
        simp only [htr.1, htr.2, decide_true, Bool.and_self, if_true] at hc ⊢
        split
        · rename_i h; rw [if_pos h] at hc; exact absurd rfl hc
        · rfl
      have hsh : (shpOk (f 0) (o 0) per && shpOk (f 1) (o 1) per && shpOk (f 2) (o 2) per) = false := by
        rw [Bool.eq_false_iff]
        intro h
        unfold rcode at hcd
        rw [hrg, h] at hcd
        simp [htr.1, htr.2] at hcd
      obtain ⟨ht0, ht1⟩ := htr
      have HCD := Lib.hid hcd
      have HSH := Lib.hid hsh
      clear hcd hsh hrg hc
      go_enter Try.func33, Try.ntmps33
      go_wp2_with fail
      refine ((unhide HR) _).mono ?_
      rintro e w1 ⟨rfl, hb1⟩
      have hb := hb0.trans (hb1.mono hb0.size)
      have h1 := g1.below hb1 g1.lt
      have h2 := g2.below hb1 g2.lt
      have h3 := g3.below hb1 g3.lt
      clear hb0 hb1 g0 g1 g2 g3
      obtain ⟨y0, y1, y2, y3, y4, y5⟩ := h1.c6
      go_wp2
      clear y0 y1 y2 y3 y4 y5
      go_loopw [43] (fun i wr => (i = .int .i64 0 ∨ (i = .int .i64 1 ∧ Hid (shpOk (f 0) (o 0) per = true)) ∨ (i = .int .i64 2 ∧ Hid (shpOk (f 0) (o 0) per = true ∧ shpOk (f 1) (o 1) per = true)) ∨ (i = .int .i64 3 ∧ Hid (shpOk (f 0) (o 0) per = true ∧ shpOk (f 1) (o 1) per = true ∧ shpOk (f 2) (o 2) per = true))) ∧ Blk wr (w.heap.size + 1 + 1) 25 #[.int .i64 0, .bool false, .bool false, .bool false, .bool false, .bool false, .bool false, .slice none 0 0] ∧ Blk wr (w.heap.size + 1 + 1 + 1) 48 #[.int .i64 0, .int .i64 0, .int .i64 0, .int .i64 0, .int .i64 0, .int .i64 0] ∧ Below w.heap.size w wr) (fun i _ => 3 - (intOf i).toNat)
      case atStart => exact ⟨.inl rfl, h2, h3, hb⟩
      case round =>
      clear h1 h2 h3 hb
      obtain ⟨hd, h2, h3, hb⟩ := hrel
      rcases hd with rfl | ⟨rfl, hA⟩ | ⟨rfl, hA⟩ | ⟨rfl, hA⟩
      · by_cases hs : shpOk (f 0) (o 0) per = true
        case pos =>
          obtain ⟨q1, q2, q3⟩ : 0 ≤ f 0 ∧ f 0 ≤ o 0 ∧ o 0 ≤ per := by simp only [shpOk, Bool.and_eq_true, decide_eq_true_eq] at hs; exact ⟨hs.1.1, hs.1.2, hs.2⟩
          have HS := Lib.hid hs
          clear hs
          go_wp2_with fail
          refine (shape_ok (f 0) (o 0) per q1 q2 q3 _).mono ?_
          rintro e w2 ⟨rfl, hb3⟩
          go_wp2
          go_roundw
          case rel => exact ⟨.inr (.inl ⟨rfl, HS.out⟩), (h2.alloc _).below hb3 (by have := h2.lt; simp <;> omega), (h3.alloc _).below hb3 (by have := h3.lt; simp <;> omega), (hb.alloc hb.size _).trans (hb3.mono (hb.alloc hb.size _).size)⟩
          case measure => simp [intOf]
        case neg =>
          have hs' : shpOk (f 0) (o 0) per = false := by simpa using hs
          have HS := Lib.hid hs'
          clear hs hs'
          go_wp2_with fail
          refine (shape_bad (f 0) (o 0) per HS.out _).mono ?_
          rintro e w2 ⟨rfl, hb3⟩
          replace h2 := (h2.alloc (.cells #[.int .i64 (f 0), .int .i64 (o 0)] 50)).below hb3 (by have := h2.lt; simp <;> omega)
          replace h3 := (h3.alloc (.cells #[.int .i64 (f 0), .int .i64 (o 0)] 50)).below hb3 (by have := h3.lt; simp <;> omega)
          replace hb := (hb.alloc hb.size (.cells #[.int .i64 (f 0), .int .i64 (o 0)] 50)).trans (hb3.mono (hb.alloc hb.size (.cells #[.int .i64 (f 0), .int .i64 (o 0)] 50)).size)
          clear hb3
          obtain ⟨u0, u1, u2, u3, u4, u5, u6, u7⟩ := h2.c8
          obtain ⟨z0, z1, z2, z3, z4, z5⟩ := h3.c6
          have fr0 := h2.frozen 0
          have fr1 := h2.frozen 1
          have fr2 := h2.frozen 2
          have fr3 := h2.frozen 3
          have fr4 := h2.frozen 4
          have fr5 := h2.frozen 5
          have fr6 := h2.frozen 6
          have fr7 := h2.frozen 7
          have fz0 := h3.frozen 0
          have fz1 := h3.frozen 1
          have fz2 := h3.frozen 2
          have fz3 := h3.frozen 3
          have fz4 := h3.frozen 4
          have fz5 := h3.frozen 5
          go_wp2
          refine bodyPost_ret (ret_cct rfl rfl rfl (load_gates ((((((((((((((h2.set_ 0 _).set_ 1 _).set_ 2 _).set_ 3 _).set_ 4 _).set_ 5 _).set_ 6 _).set_ 7 _).far (by simp <;> omega) _).far (by simp <;> omega) _).far (by simp <;> omega) _).far (by simp <;> omega) _).far (by simp <;> omega) _).far (by simp <;> omega) _)) (load_legs ((((((((((((((h3.far (by simp <;> omega) _).far (by simp <;> omega) _).far (by simp <;> omega) _).far (by simp <;> omega) _).far (by simp <;> omega) _).far (by simp <;> omega) _).far (by simp <;> omega) _).far (by simp <;> omega) _).set_ 0 _).set_ 1 _).set_ 2 _).set_ 3 _).set_ 4 _).set_ 5 _))) rfl ⟨?_, ((((((((((((((hb.setCell (by simp <;> omega) _).setCell (by simp <;> omega) _).setCell (by simp <;> omega) _).setCell (by simp <;> omega) _).setCell (by simp <;> omega) _).setCell (by simp <;> omega) _).setCell (by simp <;> omega) _).setCell (by simp <;> omega) _).setCell (by simp <;> omega) _).setCell (by simp <;> omega) _).setCell (by simp <;> omega) _).setCell (by simp <;> omega) _).setCell (by simp <;> omega) _).setCell (by simp <;> omega) _)⟩
          rw [HCD.out]
          rfl

      · by_cases hs : shpOk (f 1) (o 1) per = true
        case pos =>
          obtain ⟨q1, q2, q3⟩ : 0 ≤ f 1 ∧ f 1 ≤ o 1 ∧ o 1 ≤ per := by simp only [shpOk, Bool.and_eq_true, decide_eq_true_eq] at hs; exact ⟨hs.1.1, hs.1.2, hs.2⟩
          have HS := Lib.hid hs
          clear hs
          go_wp2_with fail
          refine (shape_ok (f 1) (o 1) per q1 q2 q3 _).mono ?_
          rintro e w2 ⟨rfl, hb3⟩
          go_wp2
          go_roundw
          case rel => exact ⟨.inr (.inr (.inl ⟨rfl, ⟨hA.out, HS.out⟩⟩)), (h2.alloc _).below hb3 (by have := h2.lt; simp <;> omega), (h3.alloc _).below hb3 (by have := h3.lt; simp <;> omega), (hb.alloc hb.size _).trans (hb3.mono (hb.alloc hb.size _).size)⟩
          case measure => simp [intOf]
        case neg =>
          have hs' : shpOk (f 1) (o 1) per = false := by simpa using hs
          have HS := Lib.hid hs'
          clear hs hs'
          go_wp2_with fail
          refine (shape_bad (f 1) (o 1) per HS.out _).mono ?_
          rintro e w2 ⟨rfl, hb3⟩
          replace h2 := (h2.alloc (.cells #[.int .i64 (f 1), .int .i64 (o 1)] 50)).below hb3 (by have := h2.lt; simp <;> omega)
          replace h3 := (h3.alloc (.cells #[.int .i64 (f 1), .int .i64 (o 1)] 50)).below hb3 (by have := h3.lt; simp <;> omega)
          replace hb := (hb.alloc hb.size (.cells #[.int .i64 (f 1), .int .i64 (o 1)] 50)).trans (hb3.mono (hb.alloc hb.size (.cells #[.int .i64 (f 1), .int .i64 (o 1)] 50)).size)
          clear hb3
          obtain ⟨u0, u1, u2, u3, u4, u5, u6, u7⟩ := h2.c8
          obtain ⟨z0, z1, z2, z3, z4, z5⟩ := h3.c6
          have fr0 := h2.frozen 0
          have fr1 := h2.frozen 1
          have fr2 := h2.frozen 2
          have fr3 := h2.frozen 3
          have fr4 := h2.frozen 4
          have fr5 := h2.frozen 5
          have fr6 := h2.frozen 6
          have fr7 := h2.frozen 7
          have fz0 := h3.frozen 0
          have fz1 := h3.frozen 1
          have fz2 := h3.frozen 2
          have fz3 := h3.frozen 3
          have fz4 := h3.frozen 4
          have fz5 := h3.frozen 5
          go_wp2
          refine bodyPost_ret (ret_cct rfl rfl rfl (load_gates ((((((((((((((h2.set_ 0 _).set_ 1 _).set_ 2 _).set_ 3 _).set_ 4 _).set_ 5 _).set_ 6 _).set_ 7 _).far (by simp <;> omega) _).far (by simp <;> omega) _).far (by simp <;> omega) _).far (by simp <;> omega) _).far (by simp <;> omega) _).far (by simp <;> omega) _)) (load_legs ((((((((((((((h3.far (by simp <;> omega) _).far (by simp <;> omega) _).far (by simp <;> omega) _).far (by simp <;> omega) _).far (by simp <;> omega) _).far (by simp <;> omega) _).far (by simp <;> omega) _).far (by simp <;> omega) _).set_ 0 _).set_ 1 _).set_ 2 _).set_ 3 _).set_ 4 _).set_ 5 _))) rfl ⟨?_, ((((((((((((((hb.setCell (by simp <;> omega) _).setCell (by simp <;> omega) _).setCell (by simp <;> omega) _).setCell (by simp <;> omega) _).setCell (by simp <;> omega) _).setCell (by simp <;> omega) _).setCell (by simp <;> omega) _).setCell (by simp <;> omega) _).setCell (by simp <;> omega) _).setCell (by simp <;> omega) _).setCell (by simp <;> omega) _).setCell (by simp <;> omega) _).setCell (by simp <;> omega) _).setCell (by simp <;> omega) _)⟩
          rw [HCD.out]
          rfl

      · by_cases hs : shpOk (f 2) (o 2) per = true
        case pos =>
          obtain ⟨q1, q2, q3⟩ : 0 ≤ f 2 ∧ f 2 ≤ o 2 ∧ o 2 ≤ per := by simp only [shpOk, Bool.and_eq_true, decide_eq_true_eq] at hs; exact ⟨hs.1.1, hs.1.2, hs.2⟩
          have HS := Lib.hid hs
          clear hs
          go_wp2_with fail
          refine (shape_ok (f 2) (o 2) per q1 q2 q3 _).mono ?_
          rintro e w2 ⟨rfl, hb3⟩
          go_wp2
          go_roundw
          case rel => exact ⟨.inr (.inr (.inr ⟨rfl, ⟨hA.out.1, hA.out.2, HS.out⟩⟩)), (h2.alloc _).below hb3 (by have := h2.lt; simp <;> omega), (h3.alloc _).below hb3 (by have := h3.lt; simp <;> omega), (hb.alloc hb.size _).trans (hb3.mono (hb.alloc hb.size _).size)⟩
          case measure => simp [intOf]
        case neg =>
          have hs' : shpOk (f 2) (o 2) per = false := by simpa using hs
          have HS := Lib.hid hs'
          clear hs hs'
          go_wp2_with fail
          refine (shape_bad (f 2) (o 2) per HS.out _).mono ?_
          rintro e w2 ⟨rfl, hb3⟩
          replace h2 := (h2.alloc (.cells #[.int .i64 (f 2), .int .i64 (o 2)] 50)).below hb3 (by have := h2.lt; simp <;> omega)
          replace h3 := (h3.alloc (.cells #[.int .i64 (f 2), .int .i64 (o 2)] 50)).below hb3 (by have := h3.lt; simp <;> omega)
          replace hb := (hb.alloc hb.size (.cells #[.int .i64 (f 2), .int .i64 (o 2)] 50)).trans (hb3.mono (hb.alloc hb.size (.cells #[.int .i64 (f 2), .int .i64 (o 2)] 50)).size)
          clear hb3
          obtain ⟨u0, u1, u2, u3, u4, u5, u6, u7⟩ := h2.c8
          obtain ⟨z0, z1, z2, z3, z4, z5⟩ := h3.c6
          have fr0 := h2.frozen 0
          have fr1 := h2.frozen 1
          have fr2 := h2.frozen 2
          have fr3 := h2.frozen 3
          have fr4 := h2.frozen 4
          have fr5 := h2.frozen 5
          have fr6 := h2.frozen 6
          have fr7 := h2.frozen 7
          have fz0 := h3.frozen 0
          have fz1 := h3.frozen 1
          have fz2 := h3.frozen 2
          have fz3 := h3.frozen 3
          have fz4 := h3.frozen 4
          have fz5 := h3.frozen 5
          go_wp2
          refine bodyPost_ret (ret_cct rfl rfl rfl (load_gates ((((((((((((((h2.set_ 0 _).set_ 1 _).set_ 2 _).set_ 3 _).set_ 4 _).set_ 5 _).set_ 6 _).set_ 7 _).far (by simp <;> omega) _).far (by simp <;> omega) _).far (by simp <;> omega) _).far (by simp <;> omega) _).far (by simp <;> omega) _).far (by simp <;> omega) _)) (load_legs ((((((((((((((h3.far (by simp <;> omega) _).far (by simp <;> omega) _).far (by simp <;> omega) _).far (by simp <;> omega) _).far (by simp <;> omega) _).far (by simp <;> omega) _).far (by simp <;> omega) _).far (by simp <;> omega) _).set_ 0 _).set_ 1 _).set_ 2 _).set_ 3 _).set_ 4 _).set_ 5 _))) rfl ⟨?_, ((((((((((((((hb.setCell (by simp <;> omega) _).setCell (by simp <;> omega) _).setCell (by simp <;> omega) _).setCell (by simp <;> omega) _).setCell (by simp <;> omega) _).setCell (by simp <;> omega) _).setCell (by simp <;> omega) _).setCell (by simp <;> omega) _).setCell (by simp <;> omega) _).setCell (by simp <;> omega) _).setCell (by simp <;> omega) _).setCell (by simp <;> omega) _).setCell (by simp <;> omega) _).setCell (by simp <;> omega) _)⟩
          rw [HCD.out]
          rfl

      · exact absurd HSH.out (by
          have hA' := hA.out
          simp [hA'.1, hA'.2.1, hA'.2.2])
    · have hcd : rcode (x 0) (x 1) (x 2) (f 0) (o 0) (f 1) (o 1) (f 2) (o 2) per dead trip = 3 := by
        unfold rcode
        rw [if_neg]
        simp only [Bool.and_eq_true, decide_eq_true_eq]
        exact fun h => htr h.2
      have HCD := Lib.hid hcd
      have HX := Lib.hid htr
      clear hcd hrg hc
      have htc : trip < 0 ∨ (0 ≤ trip ∧ per < trip) := by omega
      clear htr
      rcases htc with q1 | ⟨q1, q2⟩
      all_goals
        go_enter Try.func33, Try.ntmps33
        go_wp2_with fail
        refine ((unhide HR) _).mono ?_
        rintro e w1 ⟨rfl, hb1⟩
        have hb := hb0.trans (hb1.mono hb0.size)
        have h2 := g2.below hb1 g2.lt
        have h3 := g3.below hb1 g3.lt
        clear hb0 hb1 g0 g1 g2 g3
        obtain ⟨u0, u1, u2, u3, u4, u5, u6, u7⟩ := h2.c8
        obtain ⟨z0, z1, z2, z3, z4, z5⟩ := h3.c6
        have fr0 := h2.frozen 0
        have fr1 := h2.frozen 1
        have fr2 := h2.frozen 2
        have fr3 := h2.frozen 3
        have fr4 := h2.frozen 4
        have fr5 := h2.frozen 5
        have fr6 := h2.frozen 6
        have fr7 := h2.frozen 7
        have fz0 := h3.frozen 0
        have fz1 := h3.frozen 1
        have fz2 := h3.frozen 2
        have fz3 := h3.frozen 3
        have fz4 := h3.frozen 4
        have fz5 := h3.frozen 5
        go_wp2
        refine bodyPost_ret (ret_cct rfl rfl rfl (load_gates ((((((((((((((h2.set_ 0 _).set_ 1 _).set_ 2 _).set_ 3 _).set_ 4 _).set_ 5 _).set_ 6 _).set_ 7 _).far (by simp <;> omega) _).far (by simp <;> omega) _).far (by simp <;> omega) _).far (by simp <;> omega) _).far (by simp <;> omega) _).far (by simp <;> omega) _)) (load_legs ((((((((((((((h3.far (by simp <;> omega) _).far (by simp <;> omega) _).far (by simp <;> omega) _).far (by simp <;> omega) _).far (by simp <;> omega) _).far (by simp <;> omega) _).far (by simp <;> omega) _).far (by simp <;> omega) _).set_ 0 _).set_ 1 _).set_ 2 _).set_ 3 _).set_ 4 _).set_ 5 _))) rfl ⟨?_, ((((((((((((((hb.setCell (by simp <;> omega) _).setCell (by simp <;> omega) _).setCell (by simp <;> omega) _).setCell (by simp <;> omega) _).setCell (by simp <;> omega) _).setCell (by simp <;> omega) _).setCell (by simp <;> omega) _).setCell (by simp <;> omega) _).setCell (by simp <;> omega) _).setCell (by simp <;> omega) _).setCell (by simp <;> omega) _).setCell (by simp <;> omega) _).setCell (by simp <;> omega) _).setCell (by simp <;> omega) _)⟩
        rw [HCD.out]
        rfl

end Go.Proofs.Ytgnojdiecgfeaaa
