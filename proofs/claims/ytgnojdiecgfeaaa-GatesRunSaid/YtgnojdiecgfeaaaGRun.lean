/- The walk of the statement GatesRun. -/
import Derived.Test.YtgnojdiecgfeaaaRRunBad
import Derived.Test.YtgnojdiecgfeaaaSame24
import Derived.Test.YtgnojdiecgfeaaaAwakeG
import Derived.Test.YtgnojdiecgfeaaaOpenG
namespace Go.Proofs.Ytgnojdiecgfeaaa
open Go.RowKit

theorem rcode_zero {x0 x1 x2 : Lg} {f0 o0 f1 o1 f2 o2 per dead trip : Int} (h : rcode x0 x1 x2 f0 o0 f1 o1 f2 o2 per dead trip = 0) :
    rngOk x0 x1 x2 per dead = true ∧ 0 ≤ trip ∧ trip ≤ per ∧ 0 ≤ f0 ∧ f0 ≤ o0 ∧ o0 ≤ per ∧ 0 ≤ f1 ∧ f1 ≤ o1 ∧ o1 ≤ per ∧ 0 ≤ f2 ∧ f2 ≤ o2 ∧ o2 ≤ per := by
  unfold rcode at h
  by_cases h1 : (rngOk x0 x1 x2 per dead && (decide (0 ≤ trip) && decide (trip ≤ per))) = true
  · rw [if_pos h1] at h
    by_cases h2 : (shpOk f0 o0 per && shpOk f1 o1 per && shpOk f2 o2 per) = true
    · simp only [shpOk, Bool.and_eq_true, decide_eq_true_eq] at h1 h2
      exact ⟨h1.1, h1.2.1, h1.2.2, h2.1.1.1.1, h2.1.1.1.2, h2.1.1.2, h2.1.2.1.1, h2.1.2.1.2, h2.1.2.2, h2.2.1.1, h2.2.1.2, h2.2.2⟩
    · rw [if_neg h2] at h; cases h
  · rw [if_neg h1] at h; cases h

theorem eq_legs0 (w : World) : (binOp .eql 48 (.agg #[.int .i64 0, .int .i64 0, .int .i64 0, .int .i64 0, .int .i64 0, .int .i64 0]) (.agg #[.int .i64 0, .int .i64 0, .int .i64 0, .int .i64 0, .int .i64 0, .int .i64 0])).run Try.prog w = .ok (.bool true) w := eq_legs (fun _ => ⟨0, 0⟩) (fun _ => ⟨0, 0⟩) w

set_option maxRecDepth 100000 in
set_option maxHeartbeats 6400000 in
theorem gatesRun_walk (x : Nat → Lg) (f o : Nat → Int) (per dead trip : Int) (w : World) :
    Calls Try.prog 7 #[.agg (cellsL x), .agg (cellsD f o per dead trip)] w fun e w' => e = .returned (.bool true) ∧ Below w.heap.size w w' := by
  have g0 := (Blk.new w 48 (cellsL x)).alloc (.cells (cellsD f o per dead trip) 53)
  have g1 := Blk.new' (w := w.alloc (.cells (cellsL x) 48)) (t := 53) (cs := cellsD f o per dead trip) (g := w.heap.size + 1) (by simp)
  have hb0 := ((Below.refl w.heap.size w).alloc (Nat.le_refl _) (.cells (cellsL x) 48)).alloc (by simp) (.cells (cellsD f o per dead trip) 53)
  by_cases hc : rcode (x 0) (x 1) (x 2) (f 0) (o 0) (f 1) (o 1) (f 2) (o 2) per dead trip = 0
  · obtain ⟨h1, h2, h3, h4, h5, h6, h7, h8, h9, h10, h11, h12⟩ := rcode_zero hc
    obtain ⟨hp1, hp2⟩ : 64 ≤ per ∧ per ≤ 4096 := by
      simp only [rngOk, perOk, Bool.and_eq_true, decide_eq_true_eq] at h1
      exact h1.1.2
    have hru := fun W => run_walk x f o per dead trip W h1 h2 h3 h4 h5 h6 h7 h8 h9 h10 h11 h12 ⟨per, dead, trip, f, o, x⟩ rfl
    have hrr := fun W => rrun_walk x f o per dead trip W h1 h2 h3 h4 h5 h6 h7 h8 h9 h10 h11 h12 ⟨per, dead, trip, f, o, x⟩ rfl
    have hlen := Rq.es_len ⟨per, dead, trip, f, o, x⟩ per.toNat
    obtain ⟨y, hy⟩ : ∃ y, (fun l => Rq.at_ ⟨per, dead, trip, f, o, x⟩ l per.toNat) = y := ⟨_, rfl⟩
    obtain ⟨es, hes⟩ : ∃ es, Rq.es ⟨per, dead, trip, f, o, x⟩ per.toNat = es := ⟨_, rfl⟩
    obtain ⟨c0, hc0⟩ : ∃ c, ((x 0).s == 2) = c := ⟨_, rfl⟩
    obtain ⟨c1, hc1⟩ : ∃ c, ((x 0).s == 1) = c := ⟨_, rfl⟩
    obtain ⟨c2, hc2⟩ : ∃ c, ((x 1).s == 2) = c := ⟨_, rfl⟩
    obtain ⟨c3, hc3⟩ : ∃ c, ((x 1).s == 1) = c := ⟨_, rfl⟩
    obtain ⟨c4, hc4⟩ : ∃ c, ((x 2).s == 2) = c := ⟨_, rfl⟩
    obtain ⟨c5, hc5⟩ : ∃ c, ((x 2).s == 1) = c := ⟨_, rfl⟩
    simp only [hy, hes, hc0, hc1, hc2, hc3, hc4, hc5] at hru hrr
    rw [hes] at hlen
    have hl2 : es.length ≤ 12288 := by omega
    clear hy hes hc0 hc1 hc2 hc3 hc4 hc5 h1 h2 h3 h4 h5 h6 h7 h8 h9 h10 h11 h12 hlen hc
    have hq := fun W => eq_legs y y W
    simp only [BEq.rfl, Bool.and_self] at hq
    unfold cellsL cellsP at hru hrr
    unfold cellsL at hq
    unfold cellsL cellsD at g0 g1 hb0 ⊢
    have HRU := hide hru
    have HRR := hide hrr
    have hnum := fun W => num_any 0 W
    rw [errV_zero] at hnum
    have HNU := hide hnum
    clear hru hrr hnum
    go_enter Try.func7, Try.ntmps7
    go_wp2_with fail
    refine (awakeG_walk _).mono ?_
    rintro e w1 ⟨rfl, hb1⟩
    have hb2 := hb0.trans (hb1.mono hb0.size)
    have g01 := g0.below hb1 g0.lt
    have g11 := g1.below hb1 g1.lt
    clear hb0 g0 g1 hb1
    obtain ⟨x0, x1, x2, x3, x4, x5⟩ := g01.c6
    obtain ⟨y0, y1, y2, y3, y4, y5, y6, y7, y8⟩ := g11.c9
    go_wp2_with fail
    refine ((unhide HRU) _).mono ?_
    rintro e w2 ⟨A, n, c, rfl, rfl, hsl, _, hb3⟩
    have hb4 := ((hb2.trans (hb3.mono hb2.size)).alloc (hb2.trans (hb3.mono hb2.size)).size (.cells #[.int .i64 per, .bool c0, .bool c1, .bool c2, .bool c3, .bool c4, .bool c5, .slice A es.length c] 25)).alloc (by have := (hb2.trans (hb3.mono hb2.size)).size; simp <;> omega) (.cells #[.int .i64 (y 0).s, .int .i64 (y 0).j, .int .i64 (y 1).s, .int .i64 (y 1).j, .int .i64 (y 2).s, .int .i64 (y 2).j] 48)
    have g02 := ((g01.below hb3 g01.lt).alloc (.cells #[.int .i64 per, .bool c0, .bool c1, .bool c2, .bool c3, .bool c4, .bool c5, .slice A es.length c] 25)).alloc (.cells #[.int .i64 (y 0).s, .int .i64 (y 0).j, .int .i64 (y 1).s, .int .i64 (y 1).j, .int .i64 (y 2).s, .int .i64 (y 2).j] 48)
    have g12 := ((g11.below hb3 g11.lt).alloc (.cells #[.int .i64 per, .bool c0, .bool c1, .bool c2, .bool c3, .bool c4, .bool c5, .slice A es.length c] 25)).alloc (.cells #[.int .i64 (y 0).s, .int .i64 (y 0).j, .int .i64 (y 1).s, .int .i64 (y 1).j, .int .i64 (y 2).s, .int .i64 (y 2).j] 48)
    have ga2 := (Blk.new w2 25 #[.int .i64 per, .bool c0, .bool c1, .bool c2, .bool c3, .bool c4, .bool c5, .slice A es.length c]).alloc (.cells #[.int .i64 (y 0).s, .int .i64 (y 0).j, .int .i64 (y 1).s, .int .i64 (y 1).j, .int .i64 (y 2).s, .int .i64 (y 2).j] 48)
    have ya2 := Blk.new' (w := w2.alloc (.cells #[.int .i64 per, .bool c0, .bool c1, .bool c2, .bool c3, .bool c4, .bool c5, .slice A es.length c] 25)) (t := 48) (cs := #[.int .i64 (y 0).s, .int .i64 (y 0).j, .int .i64 (y 1).s, .int .i64 (y 1).j, .int .i64 (y 2).s, .int .i64 (y 2).j]) (g := w2.heap.size + 1) (by simp)
    have hsl2 := (hsl.alloc (Nat.le_refl _) (.cells #[.int .i64 per, .bool c0, .bool c1, .bool c2, .bool c3, .bool c4, .bool c5, .slice A es.length c] 25)).alloc (by simp) (.cells #[.int .i64 (y 0).s, .int .i64 (y 0).j, .int .i64 (y 1).s, .int .i64 (y 1).j, .int .i64 (y 2).s, .int .i64 (y 2).j] 48)
    have hs3 := hb3.size
    have l0 : w.heap.size < w2.heap.size := Nat.lt_of_lt_of_le g01.lt hb3.size
    have l1 : w.heap.size + 1 < w2.heap.size := Nat.lt_of_lt_of_le g11.lt hb3.size
    clear hb2 hb3 g01 g11 x0 x1 x2 x3 x4 x5 y0 y1 y2 y3 y4 y5 y6 y7 y8
    obtain ⟨x0, x1, x2, x3, x4, x5⟩ := g02.c6
    obtain ⟨y0, y1, y2, y3, y4, y5, y6, y7, y8⟩ := g12.c9
    go_wp2_with fail
    refine ((unhide HRR) _).mono ?_
    rintro e w3 ⟨A', n', c', rfl, rfl, hsl3, hb5⟩
    have hb6 := ((hb4.trans (hb5.mono hb4.size)).alloc (hb4.trans (hb5.mono hb4.size)).size (.cells #[.int .i64 per, .bool c0, .bool c1, .bool c2, .bool c3, .bool c4, .bool c5, .slice A' es.length c'] 25)).alloc (by have := (hb4.trans (hb5.mono hb4.size)).size; simp <;> omega) (.cells #[.int .i64 (y 0).s, .int .i64 (y 0).j, .int .i64 (y 1).s, .int .i64 (y 1).j, .int .i64 (y 2).s, .int .i64 (y 2).j] 48)
    have ga3 := ((ga2.below hb5 ga2.lt).alloc (.cells #[.int .i64 per, .bool c0, .bool c1, .bool c2, .bool c3, .bool c4, .bool c5, .slice A' es.length c'] 25)).alloc (.cells #[.int .i64 (y 0).s, .int .i64 (y 0).j, .int .i64 (y 1).s, .int .i64 (y 1).j, .int .i64 (y 2).s, .int .i64 (y 2).j] 48)
    have ya3 := ((ya2.below hb5 ya2.lt).alloc (.cells #[.int .i64 per, .bool c0, .bool c1, .bool c2, .bool c3, .bool c4, .bool c5, .slice A' es.length c'] 25)).alloc (.cells #[.int .i64 (y 0).s, .int .i64 (y 0).j, .int .i64 (y 1).s, .int .i64 (y 1).j, .int .i64 (y 2).s, .int .i64 (y 2).j] 48)
    have gb3 := (Blk.new w3 25 #[.int .i64 per, .bool c0, .bool c1, .bool c2, .bool c3, .bool c4, .bool c5, .slice A' es.length c']).alloc (.cells #[.int .i64 (y 0).s, .int .i64 (y 0).j, .int .i64 (y 1).s, .int .i64 (y 1).j, .int .i64 (y 2).s, .int .i64 (y 2).j] 48)
    have yb3 := Blk.new' (w := w3.alloc (.cells #[.int .i64 per, .bool c0, .bool c1, .bool c2, .bool c3, .bool c4, .bool c5, .slice A' es.length c'] 25)) (t := 48) (cs := #[.int .i64 (y 0).s, .int .i64 (y 0).j, .int .i64 (y 1).s, .int .i64 (y 1).j, .int .i64 (y 2).s, .int .i64 (y 2).j]) (g := w3.heap.size + 1) (by simp)
    have hsl4 := ((((hsl2.more (by simp <;> omega)).below hb5).more hb5.size).alloc (Nat.le_refl _) (.cells #[.int .i64 per, .bool c0, .bool c1, .bool c2, .bool c3, .bool c4, .bool c5, .slice A' es.length c'] 25)).alloc (by simp) (.cells #[.int .i64 (y 0).s, .int .i64 (y 0).j, .int .i64 (y 1).s, .int .i64 (y 1).j, .int .i64 (y 2).s, .int .i64 (y 2).j] 48)
    have hsl5 := ((hsl3.alloc (Nat.le_refl _) (.cells #[.int .i64 per, .bool c0, .bool c1, .bool c2, .bool c3, .bool c4, .bool c5, .slice A' es.length c'] 25)).alloc (by simp) (.cells #[.int .i64 (y 0).s, .int .i64 (y 0).j, .int .i64 (y 1).s, .int .i64 (y 1).j, .int .i64 (y 2).s, .int .i64 (y 2).j] 48))
    have l2 : w2.heap.size < w3.heap.size := Nat.lt_of_lt_of_le ga2.lt hb5.size
    have l3 : w2.heap.size + 1 < w3.heap.size := Nat.lt_of_lt_of_le ya2.lt hb5.size
    clear hb4 hb5 ga2 ya2 g02 g12 x0 x1 x2 x3 x4 x5 y0 y1 y2 y3 y4 y5 y6 y7 y8 l0 l1 hs3
    obtain ⟨x0, x1, x2, x3, x4, x5, x6, x7⟩ := ga3.c8
    obtain ⟨u0, u1, u2, u3, u4, u5, u6, u7⟩ := gb3.c8
    go_wp2_with fail
    refine ((unhide HNU) _).mono ?_
    rintro e w4 ⟨rfl, rfl⟩
    go_wp2_with fail
    refine (same_walk per c0 c1 c2 c3 c4 c5 A A' es.length c c' es _ (hsl4.more (by simp <;> omega)) (hsl5.more (by simp <;> omega)) rfl (by omega)).mono ?_
    rintro e w4 ⟨rfl, hb7⟩
    have hb8 := hb6.trans (hb7.mono hb6.size)
    obtain ⟨y0, y1, y2, y3, y4, y5⟩ := (ya3.below hb7 ya3.lt).c6
    obtain ⟨z0, z1, z2, z3, z4, z5⟩ := (yb3.below hb7 yb3.lt).c6
    go_wp2
    go_ret
    exact ⟨rfl, hb8⟩
  · have hru := fun W => run_bad x f o per dead trip W hc
    have hrr := fun W => rrun_bad x f o per dead trip W hc
    obtain ⟨cd, hcd⟩ : ∃ cd, rcode (x 0) (x 1) (x 2) (f 0) (o 0) (f 1) (o 1) (f 2) (o 2) per dead trip = cd := ⟨_, rfl⟩
    simp only [hcd] at hru hrr
    have hq := eq_legs0
    unfold cellsL cellsP at hru hrr
    unfold cellsL cellsD at g0 g1 hb0 ⊢
    have HRU := hide hru
    have HRR := hide hrr
    have HNU := hide (fun W => num_any cd W)
    clear hru hrr hcd hc
    go_enter Try.func7, Try.ntmps7
    go_wp2_with fail
    refine (awakeG_walk _).mono ?_
    rintro e w1 ⟨rfl, hb1⟩
    have hb2 := hb0.trans (hb1.mono hb0.size)
    have g01 := g0.below hb1 g0.lt
    have g11 := g1.below hb1 g1.lt
    clear hb0 g0 g1 hb1
    obtain ⟨x0, x1, x2, x3, x4, x5⟩ := g01.c6
    obtain ⟨y0, y1, y2, y3, y4, y5, y6, y7, y8⟩ := g11.c9
    go_wp2_with fail
    refine ((unhide HRU) _).mono ?_
    rintro e w2 ⟨rfl, hb3⟩
    have hb4 := ((hb2.trans (hb3.mono hb2.size)).alloc (hb2.trans (hb3.mono hb2.size)).size (.cells #[.int .i64 0, .bool false, .bool false, .bool false, .bool false, .bool false, .bool false, .slice none 0 0] 25)).alloc (by have := (hb2.trans (hb3.mono hb2.size)).size; simp <;> omega) (.cells #[.int .i64 0, .int .i64 0, .int .i64 0, .int .i64 0, .int .i64 0, .int .i64 0] 48)
    have g02 := ((g01.below hb3 g01.lt).alloc (.cells #[.int .i64 0, .bool false, .bool false, .bool false, .bool false, .bool false, .bool false, .slice none 0 0] 25)).alloc (.cells #[.int .i64 0, .int .i64 0, .int .i64 0, .int .i64 0, .int .i64 0, .int .i64 0] 48)
    have g12 := ((g11.below hb3 g11.lt).alloc (.cells #[.int .i64 0, .bool false, .bool false, .bool false, .bool false, .bool false, .bool false, .slice none 0 0] 25)).alloc (.cells #[.int .i64 0, .int .i64 0, .int .i64 0, .int .i64 0, .int .i64 0, .int .i64 0] 48)
    have ga2 := (Blk.new w2 25 #[.int .i64 0, .bool false, .bool false, .bool false, .bool false, .bool false, .bool false, .slice none 0 0]).alloc (.cells #[.int .i64 0, .int .i64 0, .int .i64 0, .int .i64 0, .int .i64 0, .int .i64 0] 48)
    have ya2 := Blk.new' (w := w2.alloc (.cells #[.int .i64 0, .bool false, .bool false, .bool false, .bool false, .bool false, .bool false, .slice none 0 0] 25)) (t := 48) (cs := #[.int .i64 0, .int .i64 0, .int .i64 0, .int .i64 0, .int .i64 0, .int .i64 0]) (g := w2.heap.size + 1) (by simp)
    have hs3 := hb3.size
    have l0 : w.heap.size < w2.heap.size := Nat.lt_of_lt_of_le g01.lt hb3.size
    have l1 : w.heap.size + 1 < w2.heap.size := Nat.lt_of_lt_of_le g11.lt hb3.size
    clear hb2 hb3 g01 g11 x0 x1 x2 x3 x4 x5 y0 y1 y2 y3 y4 y5 y6 y7 y8
    obtain ⟨x0, x1, x2, x3, x4, x5⟩ := g02.c6
    obtain ⟨y0, y1, y2, y3, y4, y5, y6, y7, y8⟩ := g12.c9
    go_wp2_with fail
    refine ((unhide HRR) _).mono ?_
    rintro e w3 ⟨rfl, hb5⟩
    have hb6 := ((hb4.trans (hb5.mono hb4.size)).alloc (hb4.trans (hb5.mono hb4.size)).size (.cells #[.int .i64 0, .bool false, .bool false, .bool false, .bool false, .bool false, .bool false, .slice none 0 0] 25)).alloc (by have := (hb4.trans (hb5.mono hb4.size)).size; simp <;> omega) (.cells #[.int .i64 0, .int .i64 0, .int .i64 0, .int .i64 0, .int .i64 0, .int .i64 0] 48)
    have ga3 := ((ga2.below hb5 ga2.lt).alloc (.cells #[.int .i64 0, .bool false, .bool false, .bool false, .bool false, .bool false, .bool false, .slice none 0 0] 25)).alloc (.cells #[.int .i64 0, .int .i64 0, .int .i64 0, .int .i64 0, .int .i64 0, .int .i64 0] 48)
    have ya3 := ((ya2.below hb5 ya2.lt).alloc (.cells #[.int .i64 0, .bool false, .bool false, .bool false, .bool false, .bool false, .bool false, .slice none 0 0] 25)).alloc (.cells #[.int .i64 0, .int .i64 0, .int .i64 0, .int .i64 0, .int .i64 0, .int .i64 0] 48)
    have gb3 := (Blk.new w3 25 #[.int .i64 0, .bool false, .bool false, .bool false, .bool false, .bool false, .bool false, .slice none 0 0]).alloc (.cells #[.int .i64 0, .int .i64 0, .int .i64 0, .int .i64 0, .int .i64 0, .int .i64 0] 48)
    have yb3 := Blk.new' (w := w3.alloc (.cells #[.int .i64 0, .bool false, .bool false, .bool false, .bool false, .bool false, .bool false, .slice none 0 0] 25)) (t := 48) (cs := #[.int .i64 0, .int .i64 0, .int .i64 0, .int .i64 0, .int .i64 0, .int .i64 0]) (g := w3.heap.size + 1) (by simp)
    have l2 : w2.heap.size < w3.heap.size := Nat.lt_of_lt_of_le ga2.lt hb5.size
    have l3 : w2.heap.size + 1 < w3.heap.size := Nat.lt_of_lt_of_le ya2.lt hb5.size
    clear hb4 hb5 ga2 ya2 g02 g12 x0 x1 x2 x3 x4 x5 y0 y1 y2 y3 y4 y5 y6 y7 y8 l0 l1 hs3
    obtain ⟨x0, x1, x2, x3, x4, x5, x6, x7⟩ := ga3.c8
    obtain ⟨u0, u1, u2, u3, u4, u5, u6, u7⟩ := gb3.c8
    go_wp2_with fail
    refine ((unhide HNU) _).mono ?_
    rintro e w4 ⟨rfl, rfl⟩
    go_wp2_with fail
    refine (same_walk 0 false false false false false false none none 0 0 0 [] _ (Sl.nil _ _ _ _) (Sl.nil _ _ _ _) rfl (by omega)).mono ?_
    rintro e w4 ⟨rfl, hb7⟩
    have hb8 := hb6.trans (hb7.mono hb6.size)
    obtain ⟨y0, y1, y2, y3, y4, y5⟩ := (ya3.below hb7 ya3.lt).c6
    obtain ⟨z0, z1, z2, z3, z4, z5⟩ := (yb3.below hb7 yb3.lt).c6
    go_wp2
    go_ret
    exact ⟨rfl, hb8⟩

end Go.Proofs.Ytgnojdiecgfeaaa
