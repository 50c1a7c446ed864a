/- The walks of layer 24's Run and of the reference's, where something is wrong with what they are asked for. -/
import Derived.Test.YtgnojdiecgfeaaaRRun
namespace Go.Proofs.Ytgnojdiecgfeaaa
open Go.RowKit

theorem rng_no_per {x0 x1 x2 : Lg} {per dead : Int} (h : ¬ (64 ≤ per ∧ per ≤ 4096)) : rngOk x0 x1 x2 per dead = false := by
  rw [Bool.eq_false_iff]; simp only [rngOk, perOk, ne_eq, Bool.and_eq_true, decide_eq_true_eq]; omega
theorem rng_no_dead {x0 x1 x2 : Lg} {per dead : Int} (h : ¬ (1 ≤ dead ∧ dead ≤ 1024)) : rngOk x0 x1 x2 per dead = false := by
  rw [Bool.eq_false_iff]; simp only [rngOk, deadOk, ne_eq, Bool.and_eq_true, decide_eq_true_eq]; omega
theorem rng_no_0 {x0 x1 x2 : Lg} {per dead : Int} (h : legOk x0 = false) : rngOk x0 x1 x2 per dead = false := by simp [rngOk, h]
theorem rng_no_1 {x0 x1 x2 : Lg} {per dead : Int} (h : legOk x1 = false) : rngOk x0 x1 x2 per dead = false := by simp [rngOk, h]
theorem rng_no_2 {x0 x1 x2 : Lg} {per dead : Int} (h : legOk x2 = false) : rngOk x0 x1 x2 per dead = false := by simp [rngOk, h]

set_option maxRecDepth 100000 in
set_option maxHeartbeats 3200000 in
theorem rranges_bad (s0 j0 s1 j1 s2 j2 per dead : Int) (w : World) (hbad : rngOk ⟨s0, j0⟩ ⟨s1, j1⟩ ⟨s2, j2⟩ per dead = false) :
    Calls Try.prog 68 #[.agg #[.int .i64 s0, .int .i64 j0, .int .i64 s1, .int .i64 j1, .int .i64 s2, .int .i64 j2], .int .i64 per, .int .i64 dead] w fun e w' => e = .returned (.int .i64 3) ∧ Below w.heap.size w w' := by
  have hb := (Below.refl w.heap.size w).alloc (Nat.le_refl _) (.cells #[.int .i64 s0, .int .i64 j0, .int .i64 s1, .int .i64 j1, .int .i64 s2, .int .i64 j2] 48)
  have ix0 := idx48_0 (.int .i64 s0) (.int .i64 j0) (.int .i64 s1) (.int .i64 j1) (.int .i64 s2) (.int .i64 j2)
  have ix1 := idx48_1 (.int .i64 s0) (.int .i64 j0) (.int .i64 s1) (.int .i64 j1) (.int .i64 s2) (.int .i64 j2)
  have ix2 := idx48_2 (.int .i64 s0) (.int .i64 j0) (.int .i64 s1) (.int .i64 j1) (.int .i64 s2) (.int .i64 j2)
  have HBAD := Lib.hid hbad
  clear hbad
  have hc : per < 64 ∨ (64 ≤ per ∧ 4096 < per) ∨ (64 ≤ per ∧ per ≤ 4096 ∧ dead < 1) ∨ (64 ≤ per ∧ per ≤ 4096 ∧ 1 ≤ dead ∧ 1024 < dead) ∨ (64 ≤ per ∧ per ≤ 4096 ∧ 1 ≤ dead ∧ dead ≤ 1024) := by omega
  rcases hc with h1 | ⟨h1, h2⟩ | ⟨h1, h2, h3⟩ | ⟨h1, h2, h3, h4⟩ | ⟨h1, h2, h3, h4⟩
  · go_enter Try.func68, Try.ntmps68
    go_wp2
    go_ret
    exact ⟨rfl, hb⟩
  · go_enter Try.func68, Try.ntmps68
    go_wp2
    go_ret
    exact ⟨rfl, hb⟩
  · go_enter Try.func68, Try.ntmps68
    go_wp2
    go_ret
    exact ⟨rfl, hb⟩
  · go_enter Try.func68, Try.ntmps68
    go_wp2
    go_ret
    exact ⟨rfl, hb⟩
  · go_enter Try.func68, Try.ntmps68
    go_wp2
    go_loopw [24] (fun i wr => (i = .int .i64 0 ∨ (i = .int .i64 1 ∧ Hid (legOk ⟨s0, j0⟩ = true)) ∨ (i = .int .i64 2 ∧ Hid (legOk ⟨s0, j0⟩ = true ∧ legOk ⟨s1, j1⟩ = true)) ∨ (i = .int .i64 3 ∧ Hid (legOk ⟨s0, j0⟩ = true ∧ legOk ⟨s1, j1⟩ = true ∧ legOk ⟨s2, j2⟩ = true))) ∧ Below w.heap.size w wr) (fun i _ => 3 - (intOf i).toNat)
    case atStart => exact ⟨.inl rfl, hb⟩
    case round =>
    clear hb
    obtain ⟨hd, hb⟩ := hrel
    rcases hd with rfl | ⟨rfl, hA⟩ | ⟨rfl, hA⟩ | ⟨rfl, hA⟩
    · have hc : s0 < 0 ∨ (0 ≤ s0 ∧ 2 < s0) ∨ (0 ≤ s0 ∧ s0 ≤ 2 ∧ j0 < 0) ∨ (0 ≤ s0 ∧ s0 ≤ 2 ∧ 0 ≤ j0 ∧ 4096 < j0) ∨ (0 ≤ s0 ∧ s0 ≤ 2 ∧ 0 ≤ j0 ∧ j0 ≤ 4096) := by omega
      rcases hc with c1 | ⟨c1, c2⟩ | ⟨c1, c2, c3⟩ | ⟨c1, c2, c3, c4⟩ | ⟨c1, c2, c3, c4⟩
      · go_wp2
        go_ret
        exact ⟨rfl, hb.alloc hb.size _⟩
      · go_wp2
        go_ret
        exact ⟨rfl, hb.alloc hb.size _⟩
      · go_wp2
        go_ret
        exact ⟨rfl, hb.alloc hb.size _⟩
      · go_wp2
        go_ret
        exact ⟨rfl, hb.alloc hb.size _⟩
      · go_wp2
        go_roundw
        case rel => exact ⟨.inr (.inl ⟨rfl, legOk_yes ⟨c1, c2⟩ ⟨c3, c4⟩⟩), hb.alloc hb.size _⟩
        case measure => simp [intOf]
    · have hc : s1 < 0 ∨ (0 ≤ s1 ∧ 2 < s1) ∨ (0 ≤ s1 ∧ s1 ≤ 2 ∧ j1 < 0) ∨ (0 ≤ s1 ∧ s1 ≤ 2 ∧ 0 ≤ j1 ∧ 4096 < j1) ∨ (0 ≤ s1 ∧ s1 ≤ 2 ∧ 0 ≤ j1 ∧ j1 ≤ 4096) := by omega
      rcases hc with c1 | ⟨c1, c2⟩ | ⟨c1, c2, c3⟩ | ⟨c1, c2, c3, c4⟩ | ⟨c1, c2, c3, c4⟩
      · go_wp2
        go_ret
        exact ⟨rfl, hb.alloc hb.size _⟩
      · go_wp2
        go_ret
        exact ⟨rfl, hb.alloc hb.size _⟩
      · go_wp2
        go_ret
        exact ⟨rfl, hb.alloc hb.size _⟩
      · go_wp2
        go_ret
        exact ⟨rfl, hb.alloc hb.size _⟩
      · go_wp2
        go_roundw
        case rel => exact ⟨.inr (.inr (.inl ⟨rfl, ⟨hA.out, legOk_yes ⟨c1, c2⟩ ⟨c3, c4⟩⟩⟩)), hb.alloc hb.size _⟩
        case measure => simp [intOf]
    · have hc : s2 < 0 ∨ (0 ≤ s2 ∧ 2 < s2) ∨ (0 ≤ s2 ∧ s2 ≤ 2 ∧ j2 < 0) ∨ (0 ≤ s2 ∧ s2 ≤ 2 ∧ 0 ≤ j2 ∧ 4096 < j2) ∨ (0 ≤ s2 ∧ s2 ≤ 2 ∧ 0 ≤ j2 ∧ j2 ≤ 4096) := by omega
      rcases hc with c1 | ⟨c1, c2⟩ | ⟨c1, c2, c3⟩ | ⟨c1, c2, c3, c4⟩ | ⟨c1, c2, c3, c4⟩
      · go_wp2
        go_ret
        exact ⟨rfl, hb.alloc hb.size _⟩
      · go_wp2
        go_ret
        exact ⟨rfl, hb.alloc hb.size _⟩
      · go_wp2
        go_ret
        exact ⟨rfl, hb.alloc hb.size _⟩
      · go_wp2
        go_ret
        exact ⟨rfl, hb.alloc hb.size _⟩
      · go_wp2
        go_roundw
        case rel => exact ⟨.inr (.inr (.inr ⟨rfl, ⟨hA.out.1, hA.out.2, legOk_yes ⟨c1, c2⟩ ⟨c3, c4⟩⟩⟩)), hb.alloc hb.size _⟩
        case measure => simp [intOf]
    · exact absurd HBAD.out (by
        have hA' := hA.out
        simp [rngOk, hA'.1, hA'.2.1, hA'.2.2, perOk, deadOk, h1, h2, h3, h4])

theorem rranges_good (x : Nat → Lg) (per dead : Int) (hc : rngOk (x 0) (x 1) (x 2) per dead = true) : ∀ W, Calls Try.prog 68 #[.agg #[.int .i64 (x 0).s, .int .i64 (x 0).j, .int .i64 (x 1).s, .int .i64 (x 1).j, .int .i64 (x 2).s, .int .i64 (x 2).j], .int .i64 per, .int .i64 dead] W fun e w' => e = .returned (.int .i64 0) ∧ Below W.heap.size W w' := by
  obtain ⟨hl, hd1, hd2, hp1, hp2⟩ : (∀ l, l < 3 → Lok (x l)) ∧ 1 ≤ dead ∧ dead ≤ 1024 ∧ 64 ≤ per ∧ per ≤ 4096 := by
    simp only [rngOk, deadOk, perOk, Bool.and_eq_true, decide_eq_true_eq] at hc
    obtain ⟨⟨⟨⟨hc0, hc1⟩, hc2⟩, hp⟩, hd⟩ := hc
    refine ⟨fun l h => ?_, hd.1, hd.2, hp.1, hp.2⟩
    match l, h with
    | 0, _ => exact legOk_lok hc0
    | 1, _ => exact legOk_lok hc1
    | 2, _ => exact legOk_lok hc2
  have k0 := hl 0 (by omega)
  have k1 := hl 1 (by omega)
  have k2 := hl 2 (by omega)
  exact fun W => rranges_walk (x 0).s (x 0).j (x 1).s (x 1).j (x 2).s (x 2).j per dead W (by have := k0.s; omega) (by have := k0.s; omega) k0.j0 k0.j1 (by have := k1.s; omega) (by have := k1.s; omega) k1.j0 k1.j1 (by have := k2.s; omega) (by have := k2.s; omega) k2.j0 k2.j1 hp1 hp2 hd1 hd2

theorem shape_bad (f o per : Int) (h : shpOk f o per = false) (w : World) : Calls Try.prog 69 #[.agg #[.int .i64 f, .int .i64 o], .int .i64 per] w fun e w' => e = .returned (.int .i64 11) ∧ Below w.heap.size w w' := by
  have hb := (Below.refl w.heap.size w).alloc (Nat.le_refl _) (.cells #[.int .i64 f, .int .i64 o] 50)
  have hc : f < 0 ∨ (0 ≤ f ∧ o < f) ∨ (0 ≤ f ∧ f ≤ o ∧ per < o) := by
    rw [Bool.eq_false_iff] at h
    simp only [shpOk, ne_eq, Bool.and_eq_true, decide_eq_true_eq] at h
    omega
  clear h
  rcases hc with h1 | ⟨h1, h2⟩ | ⟨h1, h2, h3⟩
  all_goals
    go_enter Try.func69, Try.ntmps69
    go_wp2
    go_ret
    exact ⟨rfl, hb⟩

set_option maxRecDepth 100000 in
set_option maxHeartbeats 3200000 in
theorem run_bad (x : Nat → Lg) (f o : Nat → Int) (per dead trip : Int) (w : World) (hc : rcode (x 0) (x 1) (x 2) (f 0) (o 0) (f 1) (o 1) (f 2) (o 2) per dead trip ≠ 0) :
    Calls Try.prog 32 #[.agg (cellsL x), .agg (cellsP f o), .int .i64 per, .int .i64 dead, .int .i64 trip] w fun e w' =>
      e = .returned (.tuple #[.agg #[.int .i64 0, .bool false, .bool false, .bool false, .bool false, .bool false, .bool false, .slice none 0 0], .agg #[.int .i64 0, .int .i64 0, .int .i64 0, .int .i64 0, .int .i64 0, .int .i64 0], errV (rcode (x 0) (x 1) (x 2) (f 0) (o 0) (f 1) (o 1) (f 2) (o 2) per dead trip)]) ∧ Below w.heap.size w w' := by
  unfold cellsL cellsP
  have iy0 := idx51_0 (.int .i64 (f 0)) (.int .i64 (o 0)) (.int .i64 (f 1)) (.int .i64 (o 1)) (.int .i64 (f 2)) (.int .i64 (o 2))
  have iy1 := idx51_1 (.int .i64 (f 0)) (.int .i64 (o 0)) (.int .i64 (f 1)) (.int .i64 (o 1)) (.int .i64 (f 2)) (.int .i64 (o 2))
  have iy2 := idx51_2 (.int .i64 (f 0)) (.int .i64 (o 0)) (.int .i64 (f 1)) (.int .i64 (o 1)) (.int .i64 (f 2)) (.int .i64 (o 2))
  have g0 := (((Blk.new w 48 #[.int .i64 (x 0).s, .int .i64 (x 0).j, .int .i64 (x 1).s, .int .i64 (x 1).j, .int .i64 (x 2).s, .int .i64 (x 2).j]).alloc (.cells #[.int .i64 (f 0), .int .i64 (o 0), .int .i64 (f 1), .int .i64 (o 1), .int .i64 (f 2), .int .i64 (o 2)] 51)).alloc (.cells #[.int .i64 0, .bool false, .bool false, .bool false, .bool false, .bool false, .bool false, .slice none 0 0] 25)).alloc (.cells #[.int .i64 0, .int .i64 0, .int .i64 0, .int .i64 0, .int .i64 0, .int .i64 0] 48)
  have g1 := ((Blk.new' (w := w.alloc (.cells #[.int .i64 (x 0).s, .int .i64 (x 0).j, .int .i64 (x 1).s, .int .i64 (x 1).j, .int .i64 (x 2).s, .int .i64 (x 2).j] 48)) (t := 51) (cs := #[.int .i64 (f 0), .int .i64 (o 0), .int .i64 (f 1), .int .i64 (o 1), .int .i64 (f 2), .int .i64 (o 2)]) (g := w.heap.size + 1) (by simp)).alloc (.cells #[.int .i64 0, .bool false, .bool false, .bool false, .bool false, .bool false, .bool false, .slice none 0 0] 25)).alloc (.cells #[.int .i64 0, .int .i64 0, .int .i64 0, .int .i64 0, .int .i64 0, .int .i64 0] 48)
  have g2 := (Blk.new' (w := (w.alloc (.cells #[.int .i64 (x 0).s, .int .i64 (x 0).j, .int .i64 (x 1).s, .int .i64 (x 1).j, .int .i64 (x 2).s, .int .i64 (x 2).j] 48)).alloc (.cells #[.int .i64 (f 0), .int .i64 (o 0), .int .i64 (f 1), .int .i64 (o 1), .int .i64 (f 2), .int .i64 (o 2)] 51)) (t := 25) (cs := #[.int .i64 0, .bool false, .bool false, .bool false, .bool false, .bool false, .bool false, .slice none 0 0]) (g := w.heap.size + 1 + 1) (by simp)).alloc (.cells #[.int .i64 0, .int .i64 0, .int .i64 0, .int .i64 0, .int .i64 0, .int .i64 0] 48)
  have g3 := (Blk.new' (w := ((w.alloc (.cells #[.int .i64 (x 0).s, .int .i64 (x 0).j, .int .i64 (x 1).s, .int .i64 (x 1).j, .int .i64 (x 2).s, .int .i64 (x 2).j] 48)).alloc (.cells #[.int .i64 (f 0), .int .i64 (o 0), .int .i64 (f 1), .int .i64 (o 1), .int .i64 (f 2), .int .i64 (o 2)] 51)).alloc (.cells #[.int .i64 0, .bool false, .bool false, .bool false, .bool false, .bool false, .bool false, .slice none 0 0] 25)) (t := 48) (cs := #[.int .i64 0, .int .i64 0, .int .i64 0, .int .i64 0, .int .i64 0, .int .i64 0]) (g := w.heap.size + 1 + 1 + 1) (by simp))
  have hb0 := ((((Below.refl w.heap.size w).alloc (Nat.le_refl _) (.cells #[.int .i64 (x 0).s, .int .i64 (x 0).j, .int .i64 (x 1).s, .int .i64 (x 1).j, .int .i64 (x 2).s, .int .i64 (x 2).j] 48)).alloc (by simp) (.cells #[.int .i64 (f 0), .int .i64 (o 0), .int .i64 (f 1), .int .i64 (o 1), .int .i64 (f 2), .int .i64 (o 2)] 51)).alloc (by simp <;> omega) (.cells #[.int .i64 0, .bool false, .bool false, .bool false, .bool false, .bool false, .bool false, .slice none 0 0] 25)).alloc (by simp <;> omega) (.cells #[.int .i64 0, .int .i64 0, .int .i64 0, .int .i64 0, .int .i64 0, .int .i64 0] 48)
  cases hrg : rngOk (x 0) (x 1) (x 2) per dead with
  | false =>
    have hcd : rcode (x 0) (x 1) (x 2) (f 0) (o 0) (f 1) (o 1) (f 2) (o 2) per dead trip = 3 := by simp [rcode, hrg]
    have HCD := Lib.hid hcd
    have hrr := fun W => (ranges_walk (x 0).s (x 0).j (x 1).s (x 1).j (x 2).s (x 2).j per dead W)
    simp only [hrg] at hrr
    have HR := hide hrr
    clear hcd hrr hrg hc
    go_enter Try.func32, Try.ntmps32
    go_wp2_with fail
    refine ((unhide HR) _).mono ?_
    rintro e w1 ⟨rfl, hb1⟩
    have hb := hb0.trans (hb1.mono hb0.size)
    have h2 := g2.below hb1 g2.lt
    have h3 := g3.below hb1 g3.lt
    clear hb0 hb1 g0 g1 g2 g3
    obtain ⟨u0, u1, u2, u3, u4, u5, u6, u7⟩ := h2.c8
    obtain ⟨z0, z1, z2, z3, z4, z5⟩ := h3.c6
    have fr0 := h2.frozen 0
    have fr1 := h2.frozen 1
    have fr2 := h2.frozen 2
    have fr3 := h2.frozen 3
    have fr4 := h2.frozen 4
    have fr5 := h2.frozen 5
    have fr6 := h2.frozen 6
    have fr7 := h2.frozen 7
    have fz0 := h3.frozen 0
    have fz1 := h3.frozen 1
    have fz2 := h3.frozen 2
    have fz3 := h3.frozen 3
    have fz4 := h3.frozen 4
    have fz5 := h3.frozen 5
    go_wp2
    refine bodyPost_ret (ret_cct rfl rfl rfl (load_gates ((((((((((((((h2.set_ 0 _).set_ 1 _).set_ 2 _).set_ 3 _).set_ 4 _).set_ 5 _).set_ 6 _).set_ 7 _).far (by simp <;> omega) _).far (by simp <;> omega) _).far (by simp <;> omega) _).far (by simp <;> omega) _).far (by simp <;> omega) _).far (by simp <;> omega) _)) (load_legs ((((((((((((((h3.far (by simp <;> omega) _).far (by simp <;> omega) _).far (by simp <;> omega) _).far (by simp <;> omega) _).far (by simp <;> omega) _).far (by simp <;> omega) _).far (by simp <;> omega) _).far (by simp <;> omega) _).set_ 0 _).set_ 1 _).set_ 2 _).set_ 3 _).set_ 4 _).set_ 5 _))) rfl ⟨?_, ((((((((((((((hb.setCell (by simp <;> omega) _).setCell (by simp <;> omega) _).setCell (by simp <;> omega) _).setCell (by simp <;> omega) _).setCell (by simp <;> omega) _).setCell (by simp <;> omega) _).setCell (by simp <;> omega) _).setCell (by simp <;> omega) _).setCell (by simp <;> omega) _).setCell (by simp <;> omega) _).setCell (by simp <;> omega) _).setCell (by simp <;> omega) _).setCell (by simp <;> omega) _).setCell (by simp <;> omega) _)⟩
    rw [HCD.out]
    rfl
  | true =>
    have hrr := fun W => (ranges_walk (x 0).s (x 0).j (x 1).s (x 1).j (x 2).s (x 2).j per dead W)
    simp only [hrg] at hrr
    have HR := hide hrr
    clear hrr
    by_cases htr : 0 ≤ trip ∧ trip ≤ per
    · have hcd : rcode (x 0) (x 1) (x 2) (f 0) (o 0) (f 1) (o 1) (f 2) (o 2) per dead trip = 11 := by
        unfold rcode at hc ⊢
        rw [hrg] at hc ⊢
        simp only [htr.1, htr.2, decide_true, Bool.and_self, if_true] at hc ⊢
        split
        · rename_i h; rw [if_pos h] at hc; exact absurd rfl hc
        · rfl
      have hsh : (shpOk (f 0) (o 0) per && shpOk (f 1) (o 1) per && shpOk (f 2) (o 2) per) = false := by
        rw [Bool.eq_false_iff]
        intro h
        unfold rcode at hcd
        rw [hrg, h] at hcd
        simp [htr.1, htr.2] at hcd
      obtain ⟨ht0, ht1⟩ := htr
      have HCD := Lib.hid hcd
      have HSH := Lib.hid hsh
      clear hcd hsh hrg hc
      go_enter Try.func32, Try.ntmps32
      go_wp2_with fail
      refine ((unhide HR) _).mono ?_
      rintro e w1 ⟨rfl, hb1⟩
      have hb := hb0.trans (hb1.mono hb0.size)
      have h1 := g1.below hb1 g1.lt
      have h2 := g2.below hb1 g2.lt
      have h3 := g3.below hb1 g3.lt
      clear hb0 hb1 g0 g1 g2 g3
      obtain ⟨y0, y1, y2, y3, y4, y5⟩ := h1.c6
      go_wp2_with fail
      refine (within_yes trip 0 per ht0 ht1 _).mono ?_
      rintro e w' ⟨rfl, rfl⟩
      go_wp2
      clear y0 y1 y2 y3 y4 y5
      go_loopw [35] (fun i wr => (i = .int .i64 0 ∨ (i = .int .i64 1 ∧ Hid (shpOk (f 0) (o 0) per = true)) ∨ (i = .int .i64 2 ∧ Hid (shpOk (f 0) (o 0) per = true ∧ shpOk (f 1) (o 1) per = true)) ∨ (i = .int .i64 3 ∧ Hid (shpOk (f 0) (o 0) per = true ∧ shpOk (f 1) (o 1) per = true ∧ shpOk (f 2) (o 2) per = true))) ∧ Blk wr (w.heap.size + 1 + 1) 25 #[.int .i64 0, .bool false, .bool false, .bool false, .bool false, .bool false, .bool false, .slice none 0 0] ∧ Blk wr (w.heap.size + 1 + 1 + 1) 48 #[.int .i64 0, .int .i64 0, .int .i64 0, .int .i64 0, .int .i64 0, .int .i64 0] ∧ Below w.heap.size w wr) (fun i _ => 3 - (intOf i).toNat)
      case atStart => exact ⟨.inl rfl, h2, h3, hb⟩
      case round =>
      clear h1 h2 h3 hb
      obtain ⟨hd, h2, h3, hb⟩ := hrel
      rcases hd with rfl | ⟨rfl, hA⟩ | ⟨rfl, hA⟩ | ⟨rfl, hA⟩
      · have hcs : f 0 < 0 ∨ (0 ≤ f 0 ∧ o 0 < f 0) ∨ (0 ≤ f 0 ∧ f 0 ≤ o 0 ∧ per < o 0) ∨ (0 ≤ f 0 ∧ f 0 ≤ o 0 ∧ o 0 ≤ per) := by omega
        have hb' := hb.alloc hb.size (.cells #[.int .i64 (f 0), .int .i64 (o 0)] 50)
        have h2' := h2.alloc (.cells #[.int .i64 (f 0), .int .i64 (o 0)] 50)
        have h3' := h3.alloc (.cells #[.int .i64 (f 0), .int .i64 (o 0)] 50)
        rcases hcs with q1 | ⟨q1, q2⟩ | ⟨q1, q2, q3⟩ | ⟨q1, q2, q3⟩
        · have hl2 := h2.lt
          have hl3 := h3.lt
          obtain ⟨u0, u1, u2, u3, u4, u5, u6, u7⟩ := h2.c8
          obtain ⟨z0, z1, z2, z3, z4, z5⟩ := h3.c6
          have fr0 := h2.frozen 0
          have fr1 := h2.frozen 1
          have fr2 := h2.frozen 2
          have fr3 := h2.frozen 3
          have fr4 := h2.frozen 4
          have fr5 := h2.frozen 5
          have fr6 := h2.frozen 6
          have fr7 := h2.frozen 7
          have fz0 := h3.frozen 0
          have fz1 := h3.frozen 1
          have fz2 := h3.frozen 2
          have fz3 := h3.frozen 3
          have fz4 := h3.frozen 4
          have fz5 := h3.frozen 5
          go_wp2
          refine bodyPost_ret (ret_cct rfl rfl rfl (load_gates (((((((((((((((h2.set_ 0 _).set_ 1 _).set_ 2 _).set_ 3 _).set_ 4 _).set_ 5 _).set_ 6 _).set_ 7 _).far (by simp <;> omega) _).far (by simp <;> omega) _).far (by simp <;> omega) _).far (by simp <;> omega) _).far (by simp <;> omega) _).far (by simp <;> omega) _).alloc _)) (load_legs (((((((((((((((h3.far (by simp <;> omega) _).far (by simp <;> omega) _).far (by simp <;> omega) _).far (by simp <;> omega) _).far (by simp <;> omega) _).far (by simp <;> omega) _).far (by simp <;> omega) _).far (by simp <;> omega) _).set_ 0 _).set_ 1 _).set_ 2 _).set_ 3 _).set_ 4 _).set_ 5 _).alloc _))) rfl ⟨?_, (((((((((((((((hb.setCell (by simp <;> omega) _).setCell (by simp <;> omega) _).setCell (by simp <;> omega) _).setCell (by simp <;> omega) _).setCell (by simp <;> omega) _).setCell (by simp <;> omega) _).setCell (by simp <;> omega) _).setCell (by simp <;> omega) _).setCell (by simp <;> omega) _).setCell (by simp <;> omega) _).setCell (by simp <;> omega) _).setCell (by simp <;> omega) _).setCell (by simp <;> omega) _).setCell (by simp <;> omega) _).alloc (by have := hb.size; simp <;> omega) _)⟩
          rw [HCD.out]
          rfl
        · have hl2 := h2.lt
          have hl3 := h3.lt
          obtain ⟨u0, u1, u2, u3, u4, u5, u6, u7⟩ := h2.c8
          obtain ⟨z0, z1, z2, z3, z4, z5⟩ := h3.c6
          have fr0 := h2.frozen 0
          have fr1 := h2.frozen 1
          have fr2 := h2.frozen 2
          have fr3 := h2.frozen 3
          have fr4 := h2.frozen 4
          have fr5 := h2.frozen 5
          have fr6 := h2.frozen 6
          have fr7 := h2.frozen 7
          have fz0 := h3.frozen 0
          have fz1 := h3.frozen 1
          have fz2 := h3.frozen 2
          have fz3 := h3.frozen 3
          have fz4 := h3.frozen 4
          have fz5 := h3.frozen 5
          go_wp2
          refine bodyPost_ret (ret_cct rfl rfl rfl (load_gates (((((((((((((((h2.set_ 0 _).set_ 1 _).set_ 2 _).set_ 3 _).set_ 4 _).set_ 5 _).set_ 6 _).set_ 7 _).far (by simp <;> omega) _).far (by simp <;> omega) _).far (by simp <;> omega) _).far (by simp <;> omega) _).far (by simp <;> omega) _).far (by simp <;> omega) _).alloc _)) (load_legs (((((((((((((((h3.far (by simp <;> omega) _).far (by simp <;> omega) _).far (by simp <;> omega) _).far (by simp <;> omega) _).far (by simp <;> omega) _).far (by simp <;> omega) _).far (by simp <;> omega) _).far (by simp <;> omega) _).set_ 0 _).set_ 1 _).set_ 2 _).set_ 3 _).set_ 4 _).set_ 5 _).alloc _))) rfl ⟨?_, (((((((((((((((hb.setCell (by simp <;> omega) _).setCell (by simp <;> omega) _).setCell (by simp <;> omega) _).setCell (by simp <;> omega) _).setCell (by simp <;> omega) _).setCell (by simp <;> omega) _).setCell (by simp <;> omega) _).setCell (by simp <;> omega) _).setCell (by simp <;> omega) _).setCell (by simp <;> omega) _).setCell (by simp <;> omega) _).setCell (by simp <;> omega) _).setCell (by simp <;> omega) _).setCell (by simp <;> omega) _).alloc (by have := hb.size; simp <;> omega) _)⟩
          rw [HCD.out]
          rfl
        · have hl2 := h2.lt
          have hl3 := h3.lt
          obtain ⟨u0, u1, u2, u3, u4, u5, u6, u7⟩ := h2.c8
          obtain ⟨z0, z1, z2, z3, z4, z5⟩ := h3.c6
          have fr0 := h2.frozen 0
          have fr1 := h2.frozen 1
          have fr2 := h2.frozen 2
          have fr3 := h2.frozen 3
          have fr4 := h2.frozen 4
          have fr5 := h2.frozen 5
          have fr6 := h2.frozen 6
          have fr7 := h2.frozen 7
          have fz0 := h3.frozen 0
          have fz1 := h3.frozen 1
          have fz2 := h3.frozen 2
          have fz3 := h3.frozen 3
          have fz4 := h3.frozen 4
          have fz5 := h3.frozen 5
          go_wp2
          refine bodyPost_ret (ret_cct rfl rfl rfl (load_gates (((((((((((((((h2.set_ 0 _).set_ 1 _).set_ 2 _).set_ 3 _).set_ 4 _).set_ 5 _).set_ 6 _).set_ 7 _).far (by simp <;> omega) _).far (by simp <;> omega) _).far (by simp <;> omega) _).far (by simp <;> omega) _).far (by simp <;> omega) _).far (by simp <;> omega) _).alloc _)) (load_legs (((((((((((((((h3.far (by simp <;> omega) _).far (by simp <;> omega) _).far (by simp <;> omega) _).far (by simp <;> omega) _).far (by simp <;> omega) _).far (by simp <;> omega) _).far (by simp <;> omega) _).far (by simp <;> omega) _).set_ 0 _).set_ 1 _).set_ 2 _).set_ 3 _).set_ 4 _).set_ 5 _).alloc _))) rfl ⟨?_, (((((((((((((((hb.setCell (by simp <;> omega) _).setCell (by simp <;> omega) _).setCell (by simp <;> omega) _).setCell (by simp <;> omega) _).setCell (by simp <;> omega) _).setCell (by simp <;> omega) _).setCell (by simp <;> omega) _).setCell (by simp <;> omega) _).setCell (by simp <;> omega) _).setCell (by simp <;> omega) _).setCell (by simp <;> omega) _).setCell (by simp <;> omega) _).setCell (by simp <;> omega) _).setCell (by simp <;> omega) _).alloc (by have := hb.size; simp <;> omega) _)⟩
          rw [HCD.out]
          rfl
        · have hs : shpOk (f 0) (o 0) per = true := by simp [shpOk, q1, q2, q3]
          have HS := Lib.hid hs
          clear hs
          go_wp2
          go_roundw
          case rel => exact ⟨.inr (.inl ⟨rfl, HS.out⟩), h2', h3', hb'⟩
          case measure => simp [intOf]
      · have hcs : f 1 < 0 ∨ (0 ≤ f 1 ∧ o 1 < f 1) ∨ (0 ≤ f 1 ∧ f 1 ≤ o 1 ∧ per < o 1) ∨ (0 ≤ f 1 ∧ f 1 ≤ o 1 ∧ o 1 ≤ per) := by omega
        have hb' := hb.alloc hb.size (.cells #[.int .i64 (f 1), .int .i64 (o 1)] 50)
        have h2' := h2.alloc (.cells #[.int .i64 (f 1), .int .i64 (o 1)] 50)
        have h3' := h3.alloc (.cells #[.int .i64 (f 1), .int .i64 (o 1)] 50)
        rcases hcs with q1 | ⟨q1, q2⟩ | ⟨q1, q2, q3⟩ | ⟨q1, q2, q3⟩
        · have hl2 := h2.lt
          have hl3 := h3.lt
          obtain ⟨u0, u1, u2, u3, u4, u5, u6, u7⟩ := h2.c8
          obtain ⟨z0, z1, z2, z3, z4, z5⟩ := h3.c6
          have fr0 := h2.frozen 0
          have fr1 := h2.frozen 1
          have fr2 := h2.frozen 2
          have fr3 := h2.frozen 3
          have fr4 := h2.frozen 4
          have fr5 := h2.frozen 5
          have fr6 := h2.frozen 6
          have fr7 := h2.frozen 7
          have fz0 := h3.frozen 0
          have fz1 := h3.frozen 1
          have fz2 := h3.frozen 2
          have fz3 := h3.frozen 3
          have fz4 := h3.frozen 4
          have fz5 := h3.frozen 5
          go_wp2
          refine bodyPost_ret (ret_cct rfl rfl rfl (load_gates (((((((((((((((h2.set_ 0 _).set_ 1 _).set_ 2 _).set_ 3 _).set_ 4 _).set_ 5 _).set_ 6 _).set_ 7 _).far (by simp <;> omega) _).far (by simp <;> omega) _).far (by simp <;> omega) _).far (by simp <;> omega) _).far (by simp <;> omega) _).far (by simp <;> omega) _).alloc _)) (load_legs (((((((((((((((h3.far (by simp <;> omega) _).far (by simp <;> omega) _).far (by simp <;> omega) _).far (by simp <;> omega) _).far (by simp <;> omega) _).far (by simp <;> omega) _).far (by simp <;> omega) _).far (by simp <;> omega) _).set_ 0 _).set_ 1 _).set_ 2 _).set_ 3 _).set_ 4 _).set_ 5 _).alloc _))) rfl ⟨?_, (((((((((((((((hb.setCell (by simp <;> omega) _).setCell (by simp <;> omega) _).setCell (by simp <;> omega) _).setCell (by simp <;> omega) _).setCell (by simp <;> omega) _).setCell (by simp <;> omega) _).setCell (by simp <;> omega) _).setCell (by simp <;> omega) _).setCell (by simp <;> omega) _).setCell (by simp <;> omega) _).setCell (by simp <;> omega) _).setCell (by simp <;> omega) _).setCell (by simp <;> omega) _).setCell (by simp <;> omega) _).alloc (by have := hb.size; simp <;> omega) _)⟩
          rw [HCD.out]
          rfl
        · have hl2 := h2.lt
          have hl3 := h3.lt
          obtain ⟨u0, u1, u2, u3, u4, u5, u6, u7⟩ := h2.c8
          obtain ⟨z0, z1, z2, z3, z4, z5⟩ := h3.c6
          have fr0 := h2.frozen 0
          have fr1 := h2.frozen 1
          have fr2 := h2.frozen 2
          have fr3 := h2.frozen 3
          have fr4 := h2.frozen 4
          have fr5 := h2.frozen 5
          have fr6 := h2.frozen 6
          have fr7 := h2.frozen 7
          have fz0 := h3.frozen 0
          have fz1 := h3.frozen 1
          have fz2 := h3.frozen 2
          have fz3 := h3.frozen 3
          have fz4 := h3.frozen 4
          have fz5 := h3.frozen 5
          go_wp2
          refine bodyPost_ret (ret_cct rfl rfl rfl (load_gates (((((((((((((((h2.set_ 0 _).set_ 1 _).set_ 2 _).set_ 3 _).set_ 4 _).set_ 5 _).set_ 6 _).set_ 7 _).far (by simp <;> omega) _).far (by simp <;> omega) _).far (by simp <;> omega) _).far (by simp <;> omega) _).far (by simp <;> omega) _).far (by simp <;> omega) _).alloc _)) (load_legs (((((((((((((((h3.far (by simp <;> omega) _).far (by simp <;> omega) _).far (by simp <;> omega) _).far (by simp <;> omega) _).far (by simp <;> omega) _).far (by simp <;> omega) _).far (by simp <;> omega) _).far (by simp <;> omega) _).set_ 0 _).set_ 1 _).set_ 2 _).set_ 3 _).set_ 4 _).set_ 5 _).alloc _))) rfl ⟨?_, (((((((((((((((hb.setCell (by simp <;> omega) _).setCell (by simp <;> omega) _).setCell (by simp <;> omega) _).setCell (by simp <;> omega) _).setCell (by simp <;> omega) _).setCell (by simp <;> omega) _).setCell (by simp <;> omega) _).setCell (by simp <;> omega) _).setCell (by simp <;> omega) _).setCell (by simp <;> omega) _).setCell (by simp <;> omega) _).setCell (by simp <;> omega) _).setCell (by simp <;> omega) _).setCell (by simp <;> omega) _).alloc (by have := hb.size; simp <;> omega) _)⟩
          rw [HCD.out]
          rfl
        · have hl2 := h2.lt
          have hl3 := h3.lt
          obtain ⟨u0, u1, u2, u3, u4, u5, u6, u7⟩ := h2.c8
          obtain ⟨z0, z1, z2, z3, z4, z5⟩ := h3.c6
          have fr0 := h2.frozen 0
          have fr1 := h2.frozen 1
          have fr2 := h2.frozen 2
          have fr3 := h2.frozen 3
          have fr4 := h2.frozen 4
          have fr5 := h2.frozen 5
          have fr6 := h2.frozen 6
          have fr7 := h2.frozen 7
          have fz0 := h3.frozen 0
          have fz1 := h3.frozen 1
          have fz2 := h3.frozen 2
          have fz3 := h3.frozen 3
          have fz4 := h3.frozen 4
          have fz5 := h3.frozen 5
          go_wp2
          refine bodyPost_ret (ret_cct rfl rfl rfl (load_gates (((((((((((((((h2.set_ 0 _).set_ 1 _).set_ 2 _).set_ 3 _).set_ 4 _).set_ 5 _).set_ 6 _).set_ 7 _).far (by simp <;> omega) _).far (by simp <;> omega) _).far (by simp <;> omega) _).far (by simp <;> omega) _).far (by simp <;> omega) _).far (by simp <;> omega) _).alloc _)) (load_legs (((((((((((((((h3.far (by simp <;> omega) _).far (by simp <;> omega) _).far (by simp <;> omega) _).far (by simp <;> omega) _).far (by simp <;> omega) _).far (by simp <;> omega) _).far (by simp <;> omega) _).far (by simp <;> omega) _).set_ 0 _).set_ 1 _).set_ 2 _).set_ 3 _).set_ 4 _).set_ 5 _).alloc _))) rfl ⟨?_, (((((((((((((((hb.setCell (by simp <;> omega) _).setCell (by simp <;> omega) _).setCell (by simp <;> omega) _).setCell (by simp <;> omega) _).setCell (by simp <;> omega) _).setCell (by simp <;> omega) _).setCell (by simp <;> omega) _).setCell (by simp <;> omega) _).setCell (by simp <;> omega) _).setCell (by simp <;> omega) _).setCell (by simp <;> omega) _).setCell (by simp <;> omega) _).setCell (by simp <;> omega) _).setCell (by simp <;> omega) _).alloc (by have := hb.size; simp <;> omega) _)⟩
          rw [HCD.out]
          rfl
        · have hs : shpOk (f 1) (o 1) per = true := by simp [shpOk, q1, q2, q3]
          have HS := Lib.hid hs
          clear hs
          go_wp2
          go_roundw
          case rel => exact ⟨.inr (.inr (.inl ⟨rfl, ⟨hA.out, HS.out⟩⟩)), h2', h3', hb'⟩
          case measure => simp [intOf]
      · have hcs : f 2 < 0 ∨ (0 ≤ f 2 ∧ o 2 < f 2) ∨ (0 ≤ f 2 ∧ f 2 ≤ o 2 ∧ per < o 2) ∨ (0 ≤ f 2 ∧ f 2 ≤ o 2 ∧ o 2 ≤ per) := by omega
        have hb' := hb.alloc hb.size (.cells #[.int .i64 (f 2), .int .i64 (o 2)] 50)
        have h2' := h2.alloc (.cells #[.int .i64 (f 2), .int .i64 (o 2)] 50)
        have h3' := h3.alloc (.cells #[.int .i64 (f 2), .int .i64 (o 2)] 50)
        rcases hcs with q1 | ⟨q1, q2⟩ | ⟨q1, q2, q3⟩ | ⟨q1, q2, q3⟩
        · have hl2 := h2.lt
          have hl3 := h3.lt
          obtain ⟨u0, u1, u2, u3, u4, u5, u6, u7⟩ := h2.c8
          obtain ⟨z0, z1, z2, z3, z4, z5⟩ := h3.c6
          have fr0 := h2.frozen 0
          have fr1 := h2.frozen 1
          have fr2 := h2.frozen 2
          have fr3 := h2.frozen 3
          have fr4 := h2.frozen 4
          have fr5 := h2.frozen 5
          have fr6 := h2.frozen 6
          have fr7 := h2.frozen 7
          have fz0 := h3.frozen 0
          have fz1 := h3.frozen 1
          have fz2 := h3.frozen 2
          have fz3 := h3.frozen 3
          have fz4 := h3.frozen 4
          have fz5 := h3.frozen 5
          go_wp2
          refine bodyPost_ret (ret_cct rfl rfl rfl (load_gates (((((((((((((((h2.set_ 0 _).set_ 1 _).set_ 2 _).set_ 3 _).set_ 4 _).set_ 5 _).set_ 6 _).set_ 7 _).far (by simp <;> omega) _).far (by simp <;> omega) _).far (by simp <;> omega) _).far (by simp <;> omega) _).far (by simp <;> omega) _).far (by simp <;> omega) _).alloc _)) (load_legs (((((((((((((((h3.far (by simp <;> omega) _).far (by simp <;> omega) _).far (by simp <;> omega) _).far (by simp <;> omega) _).far (by simp <;> omega) _).far (by simp <;> omega) _).far (by simp <;> omega) _).far (by simp <;> omega) _).set_ 0 _).set_ 1 _).set_ 2 _).set_ 3 _).set_ 4 _).set_ 5 _).alloc _))) rfl ⟨?_, (((((((((((((((hb.setCell (by simp <;> omega) _).setCell (by simp <;> omega) _).setCell (by simp <;> omega) _).setCell (by simp <;> omega) _).setCell (by simp <;> omega) _).setCell (by simp <;> omega) _).setCell (by simp <;> omega) _).setCell (by simp <;> omega) _).setCell (by simp <;> omega) _).setCell (by simp <;> omega) _).setCell (by simp <;> omega) _).setCell (by simp <;> omega) _).setCell (by simp <;> omega) _).setCell (by simp <;> omega) _).alloc (by have := hb.size; simp <;> omega) _)⟩
          rw [HCD.out]
          rfl
        · have hl2 := h2.lt
          have hl3 := h3.lt
          obtain ⟨u0, u1, u2, u3, u4, u5, u6, u7⟩ := h2.c8
          obtain ⟨z0, z1, z2, z3, z4, z5⟩ := h3.c6
          have fr0 := h2.frozen 0
          have fr1 := h2.frozen 1
          have fr2 := h2.frozen 2
          have fr3 := h2.frozen 3
          have fr4 := h2.frozen 4
          have fr5 := h2.frozen 5
          have fr6 := h2.frozen 6
          have fr7 := h2.frozen 7
          have fz0 := h3.frozen 0
          have fz1 := h3.frozen 1
          have fz2 := h3.frozen 2
          have fz3 := h3.frozen 3
          have fz4 := h3.frozen 4
          have fz5 := h3.frozen 5
          go_wp2
          refine bodyPost_ret (ret_cct rfl rfl rfl (load_gates (((((((((((((((h2.set_ 0 _).set_ 1 _).set_ 2 _).set_ 3 _).set_ 4 _).set_ 5 _).set_ 6 _).set_ 7 _).far (by simp <;> omega) _).far (by simp <;> omega) _).far (by simp <;> omega) _).far (by simp <;> omega) _).far (by simp <;> omega) _).far (by simp <;> omega) _).alloc _)) (load_legs (((((((((((((((h3.far (by simp <;> omega) _).far (by simp <;> omega) _).far (by simp <;> omega) _).far (by simp <;> omega) _).far (by simp <;> omega) _).far (by simp <;> omega) _).far (by simp <;> omega) _).far (by simp <;> omega) _).set_ 0 _).set_ 1 _).set_ 2 _).set_ 3 _).set_ 4 _).set_ 5 _).alloc _))) rfl ⟨?_, (((((((((((((((hb.setCell (by simp <;> omega) _).setCell (by simp <;> omega) _).setCell (by simp <;> omega) _).setCell (by simp <;> omega) _).setCell (by simp <;> omega) _).setCell (by simp <;> omega) _).setCell (by simp <;> omega) _).setCell (by simp <;> omega) _).setCell (by simp <;> omega) _).setCell (by simp <;> omega) _).setCell (by simp <;> omega) _).setCell (by simp <;> omega) _).setCell (by simp <;> omega) _).setCell (by simp <;> omega) _).alloc (by have := hb.size; simp <;> omega) _)⟩
          rw [HCD.out]
          rfl
        · have hl2 := h2.lt
          have hl3 := h3.lt
          obtain ⟨u0, u1, u2, u3, u4, u5, u6, u7⟩ := h2.c8
          obtain ⟨z0, z1, z2, z3, z4, z5⟩ := h3.c6
          have fr0 := h2.frozen 0
          have fr1 := h2.frozen 1
          have fr2 := h2.frozen 2
          have fr3 := h2.frozen 3
          have fr4 := h2.frozen 4
          have fr5 := h2.frozen 5
          have fr6 := h2.frozen 6
          have fr7 := h2.frozen 7
          have fz0 := h3.frozen 0
          have fz1 := h3.frozen 1
          have fz2 := h3.frozen 2
          have fz3 := h3.frozen 3
          have fz4 := h3.frozen 4
          have fz5 := h3.frozen 5
          go_wp2
          refine bodyPost_ret (ret_cct rfl rfl rfl (load_gates (((((((((((((((h2.set_ 0 _).set_ 1 _).set_ 2 _).set_ 3 _).set_ 4 _).set_ 5 _).set_ 6 _).set_ 7 _).far (by simp <;> omega) _).far (by simp <;> omega) _).far (by simp <;> omega) _).far (by simp <;> omega) _).far (by simp <;> omega) _).far (by simp <;> omega) _).alloc _)) (load_legs (((((((((((((((h3.far (by simp <;> omega) _).far (by simp <;> omega) _).far (by simp <;> omega) _).far (by simp <;> omega) _).far (by simp <;> omega) _).far (by simp <;> omega) _).far (by simp <;> omega) _).far (by simp <;> omega) _).set_ 0 _).set_ 1 _).set_ 2 _).set_ 3 _).set_ 4 _).set_ 5 _).alloc _))) rfl ⟨?_, (((((((((((((((hb.setCell (by simp <;> omega) _).setCell (by simp <;> omega) _).setCell (by simp <;> omega) _).setCell (by simp <;> omega) _).setCell (by simp <;> omega) _).setCell (by simp <;> omega) _).setCell (by simp <;> omega) _).setCell (by simp <;> omega) _).setCell (by simp <;> omega) _).setCell (by simp <;> omega) _).setCell (by simp <;> omega) _).setCell (by simp <;> omega) _).setCell (by simp <;> omega) _).setCell (by simp <;> omega) _).alloc (by have := hb.size; simp <;> omega) _)⟩
          rw [HCD.out]
          rfl
        · have hs : shpOk (f 2) (o 2) per = true := by simp [shpOk, q1, q2, q3]
          have HS := Lib.hid hs
          clear hs
          go_wp2
          go_roundw
          case rel => exact ⟨.inr (.inr (.inr ⟨rfl, ⟨hA.out.1, hA.out.2, HS.out⟩⟩)), h2', h3', hb'⟩
          case measure => simp [intOf]
      · exact absurd HSH.out (by
          have hA' := hA.out
          simp [hA'.1, hA'.2.1, hA'.2.2])
    · have hcd : rcode (x 0) (x 1) (x 2) (f 0) (o 0) (f 1) (o 1) (f 2) (o 2) per dead trip = 3 := by
        unfold rcode
        rw [if_neg]
        simp only [Bool.and_eq_true, decide_eq_true_eq]
        exact fun h => htr h.2
      have HCD := Lib.hid hcd
      have HX := Lib.hid htr
      clear hcd hrg hc
      clear htr
      go_enter Try.func32, Try.ntmps32
      go_wp2_with fail
      refine ((unhide HR) _).mono ?_
      rintro e w1 ⟨rfl, hb1⟩
      have hb := hb0.trans (hb1.mono hb0.size)
      have h2 := g2.below hb1 g2.lt
      have h3 := g3.below hb1 g3.lt
      clear hb0 hb1 g0 g1 g2 g3
      go_wp2_with fail
      refine (within_no trip 0 per HX.out _).mono ?_
      rintro e w' ⟨rfl, rfl⟩
      obtain ⟨u0, u1, u2, u3, u4, u5, u6, u7⟩ := h2.c8
      obtain ⟨z0, z1, z2, z3, z4, z5⟩ := h3.c6
      have fr0 := h2.frozen 0
      have fr1 := h2.frozen 1
      have fr2 := h2.frozen 2
      have fr3 := h2.frozen 3
      have fr4 := h2.frozen 4
      have fr5 := h2.frozen 5
      have fr6 := h2.frozen 6
      have fr7 := h2.frozen 7
      have fz0 := h3.frozen 0
      have fz1 := h3.frozen 1
      have fz2 := h3.frozen 2
      have fz3 := h3.frozen 3
      have fz4 := h3.frozen 4
      have fz5 := h3.frozen 5
      go_wp2
      refine bodyPost_ret (ret_cct rfl rfl rfl (load_gates ((((((((((((((h2.set_ 0 _).set_ 1 _).set_ 2 _).set_ 3 _).set_ 4 _).set_ 5 _).set_ 6 _).set_ 7 _).far (by simp <;> omega) _).far (by simp <;> omega) _).far (by simp <;> omega) _).far (by simp <;> omega) _).far (by simp <;> omega) _).far (by simp <;> omega) _)) (load_legs ((((((((((((((h3.far (by simp <;> omega) _).far (by simp <;> omega) _).far (by simp <;> omega) _).far (by simp <;> omega) _).far (by simp <;> omega) _).far (by simp <;> omega) _).far (by simp <;> omega) _).far (by simp <;> omega) _).set_ 0 _).set_ 1 _).set_ 2 _).set_ 3 _).set_ 4 _).set_ 5 _))) rfl ⟨?_, ((((((((((((((hb.setCell (by simp <;> omega) _).setCell (by simp <;> omega) _).setCell (by simp <;> omega) _).setCell (by simp <;> omega) _).setCell (by simp <;> omega) _).setCell (by simp <;> omega) _).setCell (by simp <;> omega) _).setCell (by simp <;> omega) _).setCell (by simp <;> omega) _).setCell (by simp <;> omega) _).setCell (by simp <;> omega) _).setCell (by simp <;> omega) _).setCell (by simp <;> omega) _).setCell (by simp <;> omega) _)⟩
      rw [HCD.out]
      rfl

end Go.Proofs.Ytgnojdiecgfeaaa
