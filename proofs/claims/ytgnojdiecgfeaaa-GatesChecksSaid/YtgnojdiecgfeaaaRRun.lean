/- The walk of the reference's Run, where nothing is wrong with what it is asked for. -/
import Derived.Test.YtgnojdiecgfeaaaRun
import Derived.Test.YtgnojdiecgfeaaaPlainH
namespace Go.Proofs.Ytgnojdiecgfeaaa
open Go.RowKit

theorem RS.appP {w0 w w1 : World} {G : Nat} {a0 a1 a2 a3 a4 a5 a6 : Value} {ls ps : Array Value} {v v' : Value} {n n' : Nat} {rows rows' : List Value} (h : RS w0 w G #[a0, a1, a2, a3, a4, a5, a6, v] ls ps v n rows) (hG : w0.heap.size + 1 + 1 + 1 < G) (o : Obj)
    (hgrow : (w.alloc o).grownBy w1 v.ownBlock) (hown' : w1.ownsRow (G + 1) 37 3 v' n' rows') : RS w0 (w1.setCell ⟨G, 7, none⟩ v') G #[a0, a1, a2, a3, a4, a5, a6, v'] ls ps v' n' rows' := by
  have hne : ∀ g, g < G + 1 → some g ≠ v.ownBlock := fun g hg => own_ne h.own (.inl hg)
  have hge := own_ge h.own
  exact ⟨((h.g.alloc o).grown hgrow (hne _ (by omega))).set_ 7 v', ((h.s.alloc o).grown hgrow (hne _ (by omega))).far (by simp <;> omega) _, ((h.p.alloc o).grown hgrow (hne _ (by omega))).far (by simp <;> omega) _, ((h.r1.alloc o).grown hgrow (hne _ (by omega))).far (by simp <;> omega) _, ((h.r2.alloc o).grown hgrow (hne _ (by omega))).far (by simp <;> omega) _, ownsRow_setCell_below hown' (Nat.lt_succ_self _) _, ((h.b.alloc h.b.size o).grown hgrow (by have := h.b.size; simp <;> omega) (fun g hg => by have := hge g hg; omega)).setCell (by simp <;> omega) _⟩
theorem RS.alloc {w0 w : World} {G : Nat} {gs ls ps : Array Value} {v : Value} {n : Nat} {rows : List Value} (h : RS w0 w G gs ls ps v n rows) (o : Obj) : RS w0 (w.alloc o) G gs ls ps v n rows :=
  ⟨h.g.alloc o, h.s.alloc o, h.p.alloc o, h.r1.alloc o, h.r2.alloc o, World.ownsRow.alloc h.own o, h.b.alloc h.b.size o⟩
def cellsB (q : Nat → Bool) : Array Value := #[.bool (q 0), .bool (q 1), .bool (q 2), .bool (q 3), .bool (q 4), .bool (q 5)]
theorem index_six (q : Nat → Bool) {k : Nat} (hk : k < 6) (w : World) : (Instr.index 22 (.agg #[.bool (q 0), .bool (q 1), .bool (q 2), .bool (q 3), .bool (q 4), .bool (q 5)]) (.int .i64 k)).run Try.prog w = .ok (.bool (q k)) w := by
  match k, hk with
  | 0, _ => exact index6_0 _ _ _ _ _ _ w
  | 1, _ => exact index6_1 _ _ _ _ _ _ w
  | 2, _ => exact index6_2 _ _ _ _ _ _ w
  | 3, _ => exact index6_3 _ _ _ _ _ _ w
  | 4, _ => exact index6_4 _ _ _ _ _ _ w
  | 5, _ => exact index6_5 _ _ _ _ _ _ w
theorem cellsB_at (q : Nat → Bool) {k : Nat} (hk : k < 6) : (cellsB q)[k]? = some (.bool (q k)) := by
  match k, hk with
  | 0, _ => rfl
  | 1, _ => rfl
  | 2, _ => rfl
  | 3, _ => rfl
  | 4, _ => rfl
  | 5, _ => rfl

theorem rranges_walk (s0 j0 s1 j1 s2 j2 per dead : Int) (w : World) (h0 : 0 ≤ s0) (h0' : s0 ≤ 2) (k0 : 0 ≤ j0) (k0' : j0 ≤ 4096) (h1 : 0 ≤ s1) (h1' : s1 ≤ 2) (k1 : 0 ≤ j1) (k1' : j1 ≤ 4096) (h2 : 0 ≤ s2) (h2' : s2 ≤ 2) (k2 : 0 ≤ j2) (k2' : j2 ≤ 4096) (hp : 64 ≤ per) (hp' : per ≤ 4096) (hd : 1 ≤ dead) (hd' : dead ≤ 1024) :
    Calls Try.prog 68 #[.agg #[.int .i64 s0, .int .i64 j0, .int .i64 s1, .int .i64 j1, .int .i64 s2, .int .i64 j2], .int .i64 per, .int .i64 dead] w fun e w' => e = .returned (.int .i64 0) ∧ Below w.heap.size w w' := by
  have hb := (Below.refl w.heap.size w).alloc (Nat.le_refl _) (.cells #[.int .i64 s0, .int .i64 j0, .int .i64 s1, .int .i64 j1, .int .i64 s2, .int .i64 j2] 48)
  have ix0 := idx48_0 (.int .i64 s0) (.int .i64 j0) (.int .i64 s1) (.int .i64 j1) (.int .i64 s2) (.int .i64 j2)
  have ix1 := idx48_1 (.int .i64 s0) (.int .i64 j0) (.int .i64 s1) (.int .i64 j1) (.int .i64 s2) (.int .i64 j2)
  have ix2 := idx48_2 (.int .i64 s0) (.int .i64 j0) (.int .i64 s1) (.int .i64 j1) (.int .i64 s2) (.int .i64 j2)
  go_enter Try.func68, Try.ntmps68
  go_wp2
  go_loopw [24] (fun i wr => (i = .int .i64 0 ∨ i = .int .i64 1 ∨ i = .int .i64 2 ∨ i = .int .i64 3) ∧ Below w.heap.size w wr) (fun i _ => 3 - (intOf i).toNat)
  case atStart => exact ⟨.inl rfl, hb⟩
  case round =>
  clear hb
  obtain ⟨hd, hb⟩ := hrel
  rcases hd with rfl | rfl | rfl | rfl
  · go_wp2
    go_roundw
    case rel => exact ⟨.inr (.inl rfl), hb.alloc hb.size _⟩
    case measure => simp [intOf]
  · go_wp2
    go_roundw
    case rel => exact ⟨.inr (.inr (.inl rfl)), hb.alloc hb.size _⟩
    case measure => simp [intOf]
  · go_wp2
    go_roundw
    case rel => exact ⟨.inr (.inr (.inr (rfl))), hb.alloc hb.size _⟩
    case measure => simp [intOf]
  · go_wp2
    go_ret
    exact ⟨rfl, hb⟩

theorem shape_ok (f o per : Int) (h1 : 0 ≤ f) (h2 : f ≤ o) (h3 : o ≤ per) (w : World) : Calls Try.prog 69 #[.agg #[.int .i64 f, .int .i64 o], .int .i64 per] w fun e w' => e = .returned (.int .i64 0) ∧ Below w.heap.size w w' := by
  have hb := (Below.refl w.heap.size w).alloc (Nat.le_refl _) (.cells #[.int .i64 f, .int .i64 o] 50)
  go_enter Try.func69, Try.ntmps69
  go_wp2
  go_ret
  exact ⟨rfl, hb⟩

set_option maxRecDepth 100000 in
set_option maxHeartbeats 6400000 in
theorem rrun_walk (x : Nat → Lg) (f o : Nat → Int) (per dead trip : Int) (w : World) (hc : rngOk (x 0) (x 1) (x 2) per dead = true) (ht0 : 0 ≤ trip) (ht1 : trip ≤ per)
    (hf0 : 0 ≤ f 0) (hg0 : f 0 ≤ o 0) (ho0 : o 0 ≤ per) (hf1 : 0 ≤ f 1) (hg1 : f 1 ≤ o 1) (ho1 : o 1 ≤ per) (hf2 : 0 ≤ f 2) (hg2 : f 2 ≤ o 2) (ho2 : o 2 ≤ per) (r : Rq) (hr : r = ⟨per, dead, trip, f, o, x⟩) :
    Calls Try.prog 33 #[.agg (cellsL x), .agg (cellsP f o), .int .i64 per, .int .i64 dead, .int .i64 trip] w fun e w' => ∃ A n c,
      e = .returned (.tuple #[.agg #[.int .i64 per, .bool ((x 0).s == 2), .bool ((x 0).s == 1), .bool ((x 1).s == 2), .bool ((x 1).s == 1), .bool ((x 2).s == 2), .bool ((x 2).s == 1), .slice A n c], .agg (cellsL (fun l => r.at_ l per.toNat)), .int .i64 0]) ∧ n = (r.es per.toNat).length ∧ Sl w' w'.heap.size 3 A ((r.es per.toNat).map Ed.row) ∧ Below w.heap.size w w' := by
  obtain ⟨hl, hd1, hd2, hp1, hp2⟩ : (∀ l, l < 3 → Lok (x l)) ∧ 1 ≤ dead ∧ dead ≤ 1024 ∧ 64 ≤ per ∧ per ≤ 4096 := by
    simp only [rngOk, deadOk, perOk, Bool.and_eq_true, decide_eq_true_eq] at hc
    obtain ⟨⟨⟨⟨hc0, hc1⟩, hc2⟩, hp⟩, hd⟩ := hc
    refine ⟨fun l h => ?_, hd.1, hd.2, hp.1, hp.2⟩
    match l, h with
    | 0, _ => exact legOk_lok hc0
    | 1, _ => exact legOk_lok hc1
    | 2, _ => exact legOk_lok hc2
  have k0 := hl 0 (by omega)
  have k1 := hl 1 (by omega)
  have k2 := hl 2 (by omega)
  have hrg := fun W => rranges_walk (x 0).s (x 0).j (x 1).s (x 1).j (x 2).s (x 2).j per dead W (by have := k0.s; omega) (by have := k0.s; omega) k0.j0 k0.j1 (by have := k1.s; omega) (by have := k1.s; omega) k1.j0 k1.j1 (by have := k2.s; omega) (by have := k2.s; omega) k2.j0 k2.j1 hp1 hp2 hd1 hd2
  have HRG := hide hrg
  have HLK := Lib.hid hl
  clear hrg hl k0 k1 k2
  obtain ⟨q0, hi, hz0, hz1, hz2⟩ := info_parts Try.infoEdge
  have HON := hide (ron_walk (x 0).s (x 0).j (x 1).s (x 1).j (x 2).s (x 2).j)
  have HRR := Lib.hid hr
  clear hr hc
  unfold cellsL cellsP
  have iy0 := idx51_0 (.int .i64 (f 0)) (.int .i64 (o 0)) (.int .i64 (f 1)) (.int .i64 (o 1)) (.int .i64 (f 2)) (.int .i64 (o 2))
  have iy1 := idx51_1 (.int .i64 (f 0)) (.int .i64 (o 0)) (.int .i64 (f 1)) (.int .i64 (o 1)) (.int .i64 (f 2)) (.int .i64 (o 2))
  have iy2 := idx51_2 (.int .i64 (f 0)) (.int .i64 (o 0)) (.int .i64 (f 1)) (.int .i64 (o 1)) (.int .i64 (f 2)) (.int .i64 (o 2))
  have g0 := (((Blk.new w 48 #[.int .i64 (x 0).s, .int .i64 (x 0).j, .int .i64 (x 1).s, .int .i64 (x 1).j, .int .i64 (x 2).s, .int .i64 (x 2).j]).alloc (.cells #[.int .i64 (f 0), .int .i64 (o 0), .int .i64 (f 1), .int .i64 (o 1), .int .i64 (f 2), .int .i64 (o 2)] 51)).alloc (.cells #[.int .i64 0, .bool false, .bool false, .bool false, .bool false, .bool false, .bool false, .slice none 0 0] 25)).alloc (.cells #[.int .i64 0, .int .i64 0, .int .i64 0, .int .i64 0, .int .i64 0, .int .i64 0] 48)
  have g1 := ((Blk.new' (w := w.alloc (.cells #[.int .i64 (x 0).s, .int .i64 (x 0).j, .int .i64 (x 1).s, .int .i64 (x 1).j, .int .i64 (x 2).s, .int .i64 (x 2).j] 48)) (t := 51) (cs := #[.int .i64 (f 0), .int .i64 (o 0), .int .i64 (f 1), .int .i64 (o 1), .int .i64 (f 2), .int .i64 (o 2)]) (g := w.heap.size + 1) (by simp)).alloc (.cells #[.int .i64 0, .bool false, .bool false, .bool false, .bool false, .bool false, .bool false, .slice none 0 0] 25)).alloc (.cells #[.int .i64 0, .int .i64 0, .int .i64 0, .int .i64 0, .int .i64 0, .int .i64 0] 48)
  have g2 := (Blk.new' (w := (w.alloc (.cells #[.int .i64 (x 0).s, .int .i64 (x 0).j, .int .i64 (x 1).s, .int .i64 (x 1).j, .int .i64 (x 2).s, .int .i64 (x 2).j] 48)).alloc (.cells #[.int .i64 (f 0), .int .i64 (o 0), .int .i64 (f 1), .int .i64 (o 1), .int .i64 (f 2), .int .i64 (o 2)] 51)) (t := 25) (cs := #[.int .i64 0, .bool false, .bool false, .bool false, .bool false, .bool false, .bool false, .slice none 0 0]) (g := w.heap.size + 1 + 1) (by simp)).alloc (.cells #[.int .i64 0, .int .i64 0, .int .i64 0, .int .i64 0, .int .i64 0, .int .i64 0] 48)
  have g3 := (Blk.new' (w := ((w.alloc (.cells #[.int .i64 (x 0).s, .int .i64 (x 0).j, .int .i64 (x 1).s, .int .i64 (x 1).j, .int .i64 (x 2).s, .int .i64 (x 2).j] 48)).alloc (.cells #[.int .i64 (f 0), .int .i64 (o 0), .int .i64 (f 1), .int .i64 (o 1), .int .i64 (f 2), .int .i64 (o 2)] 51)).alloc (.cells #[.int .i64 0, .bool false, .bool false, .bool false, .bool false, .bool false, .bool false, .slice none 0 0] 25)) (t := 48) (cs := #[.int .i64 0, .int .i64 0, .int .i64 0, .int .i64 0, .int .i64 0, .int .i64 0]) (g := w.heap.size + 1 + 1 + 1) (by simp))
  have hb0 := ((((Below.refl w.heap.size w).alloc (Nat.le_refl _) (.cells #[.int .i64 (x 0).s, .int .i64 (x 0).j, .int .i64 (x 1).s, .int .i64 (x 1).j, .int .i64 (x 2).s, .int .i64 (x 2).j] 48)).alloc (by simp) (.cells #[.int .i64 (f 0), .int .i64 (o 0), .int .i64 (f 1), .int .i64 (o 1), .int .i64 (f 2), .int .i64 (o 2)] 51)).alloc (by simp <;> omega) (.cells #[.int .i64 0, .bool false, .bool false, .bool false, .bool false, .bool false, .bool false, .slice none 0 0] 25)).alloc (by simp <;> omega) (.cells #[.int .i64 0, .int .i64 0, .int .i64 0, .int .i64 0, .int .i64 0, .int .i64 0] 48)
  go_enter Try.func33, Try.ntmps33
  go_wp2_with fail
  refine ((unhide HRG) _).mono ?_
  rintro e w1 ⟨rfl, hb1⟩
  have hb2 := hb0.trans (hb1.mono hb0.size)
  have g01 := g0.below hb1 g0.lt
  have g11 := g1.below hb1 g1.lt
  have g21 := g2.below hb1 g2.lt
  have g31 := g3.below hb1 g3.lt
  clear hb0 hb1 g0 g1 g2 g3
  obtain ⟨y0, y1, y2, y3, y4, y5⟩ := g11.c6
  go_wp2
  clear y0 y1 y2 y3 y4 y5
  go_loopw [43] (fun i wr => (i = .int .i64 0 ∨ i = .int .i64 1 ∨ i = .int .i64 2 ∨ i = .int .i64 3) ∧ Blk wr w.heap.size 48 #[.int .i64 (x 0).s, .int .i64 (x 0).j, .int .i64 (x 1).s, .int .i64 (x 1).j, .int .i64 (x 2).s, .int .i64 (x 2).j] ∧ Blk wr (w.heap.size + 1) 51 #[.int .i64 (f 0), .int .i64 (o 0), .int .i64 (f 1), .int .i64 (o 1), .int .i64 (f 2), .int .i64 (o 2)] ∧ Blk wr (w.heap.size + 1 + 1) 25 #[.int .i64 0, .bool false, .bool false, .bool false, .bool false, .bool false, .bool false, .slice none 0 0] ∧ Blk wr (w.heap.size + 1 + 1 + 1) 48 #[.int .i64 0, .int .i64 0, .int .i64 0, .int .i64 0, .int .i64 0, .int .i64 0] ∧ Below w.heap.size w wr) (fun i _ => 3 - (intOf i).toNat)
  case atStart => exact ⟨.inl rfl, g01, g11, g21, g31, hb2⟩
  case round =>
  clear g01 g11 g21 g31 hb2
  obtain ⟨hd, h0, h1, h2, h3, hb⟩ := hrel
  rcases hd with rfl | rfl | rfl | rfl
  · go_wp2_with fail
    refine (shape_ok (f 0) (o 0) per (by omega) (by omega) (by omega) _).mono ?_
    rintro e w2 ⟨rfl, hb3⟩
    go_wp2
    go_roundw
    case rel => exact ⟨.inr (.inl rfl), (h0.alloc _).below hb3 (by have := h0.lt; simp <;> omega), (h1.alloc _).below hb3 (by have := h1.lt; simp <;> omega), (h2.alloc _).below hb3 (by have := h2.lt; simp <;> omega), (h3.alloc _).below hb3 (by have := h3.lt; simp <;> omega), (hb.alloc hb.size _).trans (hb3.mono (hb.alloc hb.size _).size)⟩
    case measure => simp [intOf]
  · go_wp2_with fail
    refine (shape_ok (f 1) (o 1) per (by omega) (by omega) (by omega) _).mono ?_
    rintro e w2 ⟨rfl, hb3⟩
    go_wp2
    go_roundw
    case rel => exact ⟨.inr (.inr (.inl rfl)), (h0.alloc _).below hb3 (by have := h0.lt; simp <;> omega), (h1.alloc _).below hb3 (by have := h1.lt; simp <;> omega), (h2.alloc _).below hb3 (by have := h2.lt; simp <;> omega), (h3.alloc _).below hb3 (by have := h3.lt; simp <;> omega), (hb.alloc hb.size _).trans (hb3.mono (hb.alloc hb.size _).size)⟩
    case measure => simp [intOf]
  · go_wp2_with fail
    refine (shape_ok (f 2) (o 2) per (by omega) (by omega) (by omega) _).mono ?_
    rintro e w2 ⟨rfl, hb3⟩
    go_wp2
    go_roundw
    case rel => exact ⟨.inr (.inr (.inr (rfl))), (h0.alloc _).below hb3 (by have := h0.lt; simp <;> omega), (h1.alloc _).below hb3 (by have := h1.lt; simp <;> omega), (h2.alloc _).below hb3 (by have := h2.lt; simp <;> omega), (h3.alloc _).below hb3 (by have := h3.lt; simp <;> omega), (hb.alloc hb.size _).trans (hb3.mono (hb.alloc hb.size _).size)⟩
    case measure => simp [intOf]
  · obtain ⟨y0, y1, y2, y3, y4, y5⟩ := h0.c6
    clear iy0 iy1 iy2
    go_wp2_with fail
    refine ((unhide HON) _).mono ?_
    rintro e w2 ⟨rfl, hb3⟩
    obtain ⟨c0, hc0⟩ : ∃ c, ((x 0).s == 2) = c := ⟨_, rfl⟩
    obtain ⟨c1, hc1⟩ : ∃ c, ((x 0).s == 1) = c := ⟨_, rfl⟩
    obtain ⟨c2, hc2⟩ : ∃ c, ((x 1).s == 2) = c := ⟨_, rfl⟩
    obtain ⟨c3, hc3⟩ : ∃ c, ((x 1).s == 1) = c := ⟨_, rfl⟩
    obtain ⟨c4, hc4⟩ : ∃ c, ((x 2).s == 2) = c := ⟨_, rfl⟩
    obtain ⟨c5, hc5⟩ : ∃ c, ((x 2).s == 1) = c := ⟨_, rfl⟩
    rw [hc0, hc1, hc2, hc3, hc4, hc5]
    have HC0 := Lib.hid hc0
    have HC1 := Lib.hid hc1
    have HC2 := Lib.hid hc2
    have HC3 := Lib.hid hc3
    have HC4 := Lib.hid hc4
    have HC5 := Lib.hid hc5
    have hbb := (hb.trans (hb3.mono hb.size)).alloc (hb.trans (hb3.mono hb.size)).size (.cells #[.int .i64 per, .bool c0, .bool c1, .bool c2, .bool c3, .bool c4, .bool c5, .slice none 0 0] 25)
    have hrs : RS w (w2.alloc (.cells #[.int .i64 per, .bool c0, .bool c1, .bool c2, .bool c3, .bool c4, .bool c5, .slice none 0 0] 25)) w2.heap.size #[.int .i64 per, .bool c0, .bool c1, .bool c2, .bool c3, .bool c4, .bool c5, .slice none 0 0] (cellsL x) (cellsP f o) (.slice none 0 0) 0 [] :=
      ⟨Blk.new _ _ _, (h0.below hb3 h0.lt).alloc _, (h1.below hb3 h1.lt).alloc _, (h2.below hb3 h2.lt).alloc _, (h3.below hb3 h3.lt).alloc _, World.ownsRow_nil _ _ _ _, hbb⟩
    have hG : w.heap.size + 1 + 1 + 1 < w2.heap.size := (h3.below hb3 h3.lt).lt
    clear hc0 hc1 hc2 hc3 hc4 hc5 hbb h0 h1 h2 h3 hb hb3 y0 y1 y2 y3 y4 y5 HON
    go_wp2
    go_loopw [60] (fun i wr => ∃ (k : Nat) (v : Value) (pre : List Ed), k ≤ per.toNat ∧ i = .int .i64 k ∧ Hid (r.es k = pre) ∧ RS w wr w2.heap.size #[.int .i64 per, .bool c0, .bool c1, .bool c2, .bool c3, .bool c4, .bool c5, v] (cellsL (fun l => r.at_ l k)) (cellsP f o) v pre.length (pre.map Ed.row).flatten) (fun i _ => per.toNat - (intOf i).toNat)
    case atStart => exact ⟨0, _, [], Nat.zero_le _, rfl, rfl, by rw [HRR.out]; exact hrs⟩
    case round =>
    have hG2 : w.heap.size + 1 + 1 + 1 < w2.heap.size := hG
    clear hrs
    obtain ⟨k, v, pre, hk, rfl, hpre, hrs⟩ := hrel
    by_cases hlt : (k : Int) < per
    · have hpl : pre.length ≤ 3 * k := by rw [← hpre.out]; exact Rq.es_len r k
      obtain ⟨A1, c1', rfl, _, _⟩ := Sl.of_own (rs := pre.map Ed.row) hrs.own (by simp [Ed.row]) (by simp)
      obtain ⟨Lp, hLp⟩ : ∃ Lp, pre.length = Lp := ⟨_, rfl⟩
      rw [hLp] at hrs hpl
      have HLP := Lib.hid hLp
      clear hLp
      obtain ⟨y0, y1, y2, y3, y4, y5⟩ := hrs.s.c6
      have hon := ron_walk (r.at_ 0 k).s (r.at_ 0 k).j (r.at_ 1 k).s (r.at_ 1 k).j (r.at_ 2 k).s (r.at_ 2 k).j
      obtain ⟨qa, hqa⟩ : ∃ q, onQ (fun l => r.at_ l k) = q := ⟨_, rfl⟩
      have hon' : ∀ W, Calls Try.prog 70 #[.agg #[.int .i64 (r.at_ 0 k).s, .int .i64 (r.at_ 0 k).j, .int .i64 (r.at_ 1 k).s, .int .i64 (r.at_ 1 k).j, .int .i64 (r.at_ 2 k).s, .int .i64 (r.at_ 2 k).j]] W fun e w' => e = .returned (.agg #[.bool (qa 0), .bool (qa 1), .bool (qa 2), .bool (qa 3), .bool (qa 4), .bool (qa 5)]) ∧ Below W.heap.size W w' := by rw [← hqa]; exact hon
      have HON := hide hon'
      have HQA := Lib.hid hqa
      clear hon hon' hqa
      go_wp2_with fail
      refine ((unhide HON) _).mono ?_
      rintro e w3 ⟨rfl, hb4⟩
      have hrs3 := (hrs.below hb4).alloc (.cells #[.bool (qa 0), .bool (qa 1), .bool (qa 2), .bool (qa 3), .bool (qa 4), .bool (qa 5)] 22)
      have hwas := Blk.new w3 22 (cellsB qa)
      have hGw : w2.heap.size < w3.heap.size := (hrs.below hb4).g.lt
      clear hrs y0 y1 y2 y3 y4 y5 hb4
      go_wp2
      go_loopw [65] (fun i wr => ∃ (m : Nat), m ≤ 3 ∧ i = .int .i64 m ∧ RS w wr w2.heap.size #[.int .i64 per, .bool c0, .bool c1, .bool c2, .bool c3, .bool c4, .bool c5, .slice A1 Lp c1'] (cellsL (mixL m (fun l => r.at_ l (k + 1)) (fun l => r.at_ l k))) (cellsP f o) (.slice A1 Lp c1') Lp (pre.map Ed.row).flatten ∧ Blk wr w3.heap.size 22 (cellsB qa)) (fun i _ => 3 - (intOf i).toNat)
      case atStart => exact ⟨0, by omega, rfl, by rw [mixL_zero]; exact hrs3, hwas⟩
      case round =>
      clear hrs3 hwas
      obtain ⟨m, hm, rfl, hrs, hwas⟩ := hrel
      by_cases hm3 : (m : Int) < 3
      · have hmn : m < 3 := by omega
        obtain ⟨⟨a, d⟩, had⟩ : ∃ L, r.at_ m k = L := ⟨_, rfl⟩
        have hlo : Lok ⟨a, d⟩ := by
          rw [← had]
          exact Rq.lok3 (by rw [HRR.out]; exact HLK.out) m hmn k
        obtain ⟨ha, hd0, hd4⟩ := hlo
        simp only at ha hd0 hd4
        have HAD := Lib.hid had
        clear had
        have hyS : wr.cell? ⟨w.heap.size, m * 2, none⟩ = some (.int .i64 a) := by rw [hrs.s.cell, cellsL_s _ hmn, mixL_at, HAD.out]
        have hyJ : wr.cell? ⟨w.heap.size, m * 2 + 1, none⟩ = some (.int .i64 d) := by rw [hrs.s.cell, cellsL_j _ hmn, mixL_at, HAD.out]
        have hfS := hrs.s.frozen (m * 2)
        have hfJ := hrs.s.frozen (m * 2 + 1)
        have hpF : wr.cell? ⟨w.heap.size + 1, m * 2, none⟩ = some (.int .i64 (f m)) := (hrs.p.cell _).trans (cellsP_f f o hmn)
        have hpO : wr.cell? ⟨w.heap.size + 1, m * 2 + 1, none⟩ = some (.int .i64 (o m)) := (hrs.p.cell _).trans (cellsP_o f o hmn)
        have EMIN : Hid (min (d + 1) 4096 = if 4096 < d + 1 then 4096 else d + 1) := by show _ = _; split <;> omega
        have hwant : (trip ≤ k ∧ f m ≤ k ∧ (k : Int) < o m ∧ wantF (f m) (o m) k trip = 0) ∨ (trip ≤ k ∧ ¬ f m ≤ k ∧ wantF (f m) (o m) k trip = 0) ∨ (trip ≤ k ∧ f m ≤ k ∧ ¬ (k : Int) < o m ∧ wantF (f m) (o m) k trip = 0) ∨ (¬ trip ≤ k ∧ f m ≤ k ∧ (k : Int) < o m ∧ wantF (f m) (o m) k trip = 2) ∨ (¬ trip ≤ k ∧ ¬ f m ≤ k ∧ wantF (f m) (o m) k trip = 1) ∨ (¬ trip ≤ k ∧ f m ≤ k ∧ ¬ (k : Int) < o m ∧ wantF (f m) (o m) k trip = 1) := by
          unfold wantF
          by_cases e1 : trip ≤ k
          · by_cases e2 : f m ≤ k
            · by_cases e3 : (k : Int) < o m
              · exact .inl ⟨e1, e2, e3, if_pos e1⟩
              · exact .inr (.inr (.inl ⟨e1, e2, e3, if_pos e1⟩))
            · exact .inr (.inl ⟨e1, e2, if_pos e1⟩)
          · by_cases e2 : f m ≤ k
            · by_cases e3 : (k : Int) < o m
              · exact .inr (.inr (.inr (.inl ⟨e1, e2, e3, by rw [if_neg e1, if_pos ⟨e2, e3⟩]⟩)))
              · exact .inr (.inr (.inr (.inr (.inr ⟨e1, e2, e3, by rw [if_neg e1, if_neg (fun h => e3 h.2)]⟩))))
            · exact .inr (.inr (.inr (.inr (.inl ⟨e1, e2, by rw [if_neg e1, if_neg (fun h => e2 h.1)]⟩))))
        rcases hwant with ⟨e1, e2, e3, hv⟩ | ⟨e1, e2, hv⟩ | ⟨e1, e2, e3, hv⟩ | ⟨e1, e2, e3, hv⟩ | ⟨e1, e2, hv⟩ | ⟨e1, e2, e3, hv⟩
        · by_cases hoff : isOff ⟨a, d⟩ 0
          · have hstep : Hid (r.at_ m (k + 1) = ⟨0, 1⟩) := by show _ = _; rw [Rq.at_succ, HAD.out, Rq.want, HRR.out]; show legS dead ⟨a, d⟩ (wantF (f m) (o m) k trip) = _; rw [hv]; exact if_pos hoff
            obtain ⟨hof1, hof2⟩ : a ≠ 0 ∧ a ≠ 0 := hoff
            have hb1 : (a != 0) = true := by simpa using hof1
            have hb2 : (a != 0) = true := by simpa using hof2
            have hb3 : (a == 0) = false := by simpa using hof1
            have hb4 : (a == 0) = false := by simpa using hof2
            go_wp2
            go_roundw
            case rel =>
              refine ⟨m + 1, by omega, by go_num, ?_, (((hwas.far (by simp <;> omega) _).far (by simp <;> omega) _).far (by simp <;> omega) _)⟩
              have h4 := ((hrs.set hG2 (m * 2) (.int .i64 0)).set hG2 (m * 2 + 1) (.int .i64 0)).set hG2 (m * 2 + 1) (.int .i64 1)
              have e4 := cellsL_set3 (fun l => r.at_ l (k + 1)) (fun l => r.at_ l k) hmn (.int .i64 0)
              simp only [hstep.out] at e4
              rw [e4] at h4
              exact h4
            case measure => simp [intOf]; omega
          · have hstep : Hid (r.at_ m (k + 1) = ⟨a, min (d + 1) 4096⟩) := by show _ = _; rw [Rq.at_succ, HAD.out, Rq.want, HRR.out]; show legS dead ⟨a, d⟩ (wantF (f m) (o m) k trip) = _; rw [hv]; exact (if_neg hoff).trans (if_neg (fun h => h.2.1 rfl))
            have hn1 : a = 0 := by
              unfold isOff at hoff
              simp only at hoff
              omega
            clear hoff
            subst hn1
            go_wp2
            go_roundw
            case rel =>
              refine ⟨m + 1, by omega, by go_num, ?_, (hwas.far (by simp <;> omega) _)⟩
              have h4 := hrs.set hG2 (m * 2 + 1) (.int .i64 (min (d + 1) 4096))
              have e4 := cellsL_set_s (fun l => r.at_ l (k + 1)) (fun l => r.at_ l k) hmn (by simp only [hstep.out, HAD.out])
              simp only [hstep.out] at e4
              rw [e4] at h4
              first | exact h4 | (rw [EMIN.out] at h4; exact h4) | (rw [show min (d + 1) 4096 = d + 1 by omega] at h4; exact h4)
            case measure => simp [intOf]; omega
        · by_cases hoff : isOff ⟨a, d⟩ 0
          · have hstep : Hid (r.at_ m (k + 1) = ⟨0, 1⟩) := by show _ = _; rw [Rq.at_succ, HAD.out, Rq.want, HRR.out]; show legS dead ⟨a, d⟩ (wantF (f m) (o m) k trip) = _; rw [hv]; exact if_pos hoff
            obtain ⟨hof1, hof2⟩ : a ≠ 0 ∧ a ≠ 0 := hoff
            have hb1 : (a != 0) = true := by simpa using hof1
            have hb2 : (a != 0) = true := by simpa using hof2
            have hb3 : (a == 0) = false := by simpa using hof1
            have hb4 : (a == 0) = false := by simpa using hof2
            go_wp2
            go_roundw
            case rel =>
              refine ⟨m + 1, by omega, by go_num, ?_, (((hwas.far (by simp <;> omega) _).far (by simp <;> omega) _).far (by simp <;> omega) _)⟩
              have h4 := ((hrs.set hG2 (m * 2) (.int .i64 0)).set hG2 (m * 2 + 1) (.int .i64 0)).set hG2 (m * 2 + 1) (.int .i64 1)
              have e4 := cellsL_set3 (fun l => r.at_ l (k + 1)) (fun l => r.at_ l k) hmn (.int .i64 0)
              simp only [hstep.out] at e4
              rw [e4] at h4
              exact h4
            case measure => simp [intOf]; omega
          · have hstep : Hid (r.at_ m (k + 1) = ⟨a, min (d + 1) 4096⟩) := by show _ = _; rw [Rq.at_succ, HAD.out, Rq.want, HRR.out]; show legS dead ⟨a, d⟩ (wantF (f m) (o m) k trip) = _; rw [hv]; exact (if_neg hoff).trans (if_neg (fun h => h.2.1 rfl))
            have hn1 : a = 0 := by
              unfold isOff at hoff
              simp only at hoff
              omega
            clear hoff
            subst hn1
            go_wp2
            go_roundw
            case rel =>
              refine ⟨m + 1, by omega, by go_num, ?_, (hwas.far (by simp <;> omega) _)⟩
              have h4 := hrs.set hG2 (m * 2 + 1) (.int .i64 (min (d + 1) 4096))
              have e4 := cellsL_set_s (fun l => r.at_ l (k + 1)) (fun l => r.at_ l k) hmn (by simp only [hstep.out, HAD.out])
              simp only [hstep.out] at e4
              rw [e4] at h4
              first | exact h4 | (rw [EMIN.out] at h4; exact h4) | (rw [show min (d + 1) 4096 = d + 1 by omega] at h4; exact h4)
            case measure => simp [intOf]; omega
        · by_cases hoff : isOff ⟨a, d⟩ 0
          · have hstep : Hid (r.at_ m (k + 1) = ⟨0, 1⟩) := by show _ = _; rw [Rq.at_succ, HAD.out, Rq.want, HRR.out]; show legS dead ⟨a, d⟩ (wantF (f m) (o m) k trip) = _; rw [hv]; exact if_pos hoff
            obtain ⟨hof1, hof2⟩ : a ≠ 0 ∧ a ≠ 0 := hoff
            have hb1 : (a != 0) = true := by simpa using hof1
            have hb2 : (a != 0) = true := by simpa using hof2
            have hb3 : (a == 0) = false := by simpa using hof1
            have hb4 : (a == 0) = false := by simpa using hof2
            go_wp2
            go_roundw
            case rel =>
              refine ⟨m + 1, by omega, by go_num, ?_, (((hwas.far (by simp <;> omega) _).far (by simp <;> omega) _).far (by simp <;> omega) _)⟩
              have h4 := ((hrs.set hG2 (m * 2) (.int .i64 0)).set hG2 (m * 2 + 1) (.int .i64 0)).set hG2 (m * 2 + 1) (.int .i64 1)
              have e4 := cellsL_set3 (fun l => r.at_ l (k + 1)) (fun l => r.at_ l k) hmn (.int .i64 0)
              simp only [hstep.out] at e4
              rw [e4] at h4
              exact h4
            case measure => simp [intOf]; omega
          · have hstep : Hid (r.at_ m (k + 1) = ⟨a, min (d + 1) 4096⟩) := by show _ = _; rw [Rq.at_succ, HAD.out, Rq.want, HRR.out]; show legS dead ⟨a, d⟩ (wantF (f m) (o m) k trip) = _; rw [hv]; exact (if_neg hoff).trans (if_neg (fun h => h.2.1 rfl))
            have hn1 : a = 0 := by
              unfold isOff at hoff
              simp only at hoff
              omega
            clear hoff
            subst hn1
            go_wp2
            go_roundw
            case rel =>
              refine ⟨m + 1, by omega, by go_num, ?_, (hwas.far (by simp <;> omega) _)⟩
              have h4 := hrs.set hG2 (m * 2 + 1) (.int .i64 (min (d + 1) 4096))
              have e4 := cellsL_set_s (fun l => r.at_ l (k + 1)) (fun l => r.at_ l k) hmn (by simp only [hstep.out, HAD.out])
              simp only [hstep.out] at e4
              rw [e4] at h4
              first | exact h4 | (rw [EMIN.out] at h4; exact h4) | (rw [show min (d + 1) 4096 = d + 1 by omega] at h4; exact h4)
            case measure => simp [intOf]; omega
        · by_cases hoff : isOff ⟨a, d⟩ 2
          · have hstep : Hid (r.at_ m (k + 1) = ⟨0, 1⟩) := by show _ = _; rw [Rq.at_succ, HAD.out, Rq.want, HRR.out]; show legS dead ⟨a, d⟩ (wantF (f m) (o m) k trip) = _; rw [hv]; exact if_pos hoff
            obtain ⟨hof1, hof2⟩ : a ≠ 0 ∧ a ≠ 2 := hoff
            have hb1 : (a != 0) = true := by simpa using hof1
            have hb2 : (a != 2) = true := by simpa using hof2
            have hb3 : (a == 0) = false := by simpa using hof1
            have hb4 : (a == 2) = false := by simpa using hof2
            go_wp2
            go_roundw
            case rel =>
              refine ⟨m + 1, by omega, by go_num, ?_, (((hwas.far (by simp <;> omega) _).far (by simp <;> omega) _).far (by simp <;> omega) _)⟩
              have h4 := ((hrs.set hG2 (m * 2) (.int .i64 0)).set hG2 (m * 2 + 1) (.int .i64 0)).set hG2 (m * 2 + 1) (.int .i64 1)
              have e4 := cellsL_set3 (fun l => r.at_ l (k + 1)) (fun l => r.at_ l k) hmn (.int .i64 0)
              simp only [hstep.out] at e4
              rw [e4] at h4
              exact h4
            case measure => simp [intOf]; omega
          · by_cases hon : isOn dead ⟨a, d⟩ 2
            · have hstep : Hid (r.at_ m (k + 1) = ⟨2, min (d + 1) 4096⟩) := by show _ = _; rw [Rq.at_succ, HAD.out, Rq.want, HRR.out]; show legS dead ⟨a, d⟩ (wantF (f m) (o m) k trip) = _; rw [hv]; exact (if_neg hoff).trans (if_pos hon)
              obtain ⟨hon1, _, hon3⟩ : a = 0 ∧ (2 : Int) ≠ 0 ∧ dead ≤ d := hon
              subst hon1
              clear hoff
              go_wp2
              go_roundw
              case rel =>
                refine ⟨m + 1, by omega, by go_num, ?_, ((hwas.far (by simp <;> omega) _).far (by simp <;> omega) _)⟩
                have h4 := (hrs.set hG2 (m * 2) (.int .i64 2)).set hG2 (m * 2 + 1) (.int .i64 (min (d + 1) 4096))
                have e4 := cellsL_set (fun l => r.at_ l (k + 1)) (fun l => r.at_ l k) hmn
                simp only [hstep.out] at e4
                rw [e4] at h4
                first | exact h4 | (rw [EMIN.out] at h4; exact h4) | (rw [show min (d + 1) 4096 = d + 1 by omega] at h4; exact h4)
              case measure => simp [intOf]; omega
            · have hstep : Hid (r.at_ m (k + 1) = ⟨a, min (d + 1) 4096⟩) := by show _ = _; rw [Rq.at_succ, HAD.out, Rq.want, HRR.out]; show legS dead ⟨a, d⟩ (wantF (f m) (o m) k trip) = _; rw [hv]; exact (if_neg hoff).trans (if_neg hon)
              have hcase : a = 2 ∨ (a = 0 ∧ d < dead) := by
                unfold isOff at hoff
                unfold isOn at hon
                simp only at hoff hon
                omega
              clear hoff hon
              rcases hcase with hn1 | ⟨hn1, hn3⟩
              all_goals
                subst hn1
                go_wp2
                go_roundw
                case rel =>
                  refine ⟨m + 1, by omega, by go_num, ?_, (hwas.far (by simp <;> omega) _)⟩
                  have h4 := hrs.set hG2 (m * 2 + 1) (.int .i64 (min (d + 1) 4096))
                  have e4 := cellsL_set_s (fun l => r.at_ l (k + 1)) (fun l => r.at_ l k) hmn (by simp only [hstep.out, HAD.out])
                  simp only [hstep.out] at e4
                  rw [e4] at h4
                  first | exact h4 | (rw [EMIN.out] at h4; exact h4) | (rw [show min (d + 1) 4096 = d + 1 by omega] at h4; exact h4)
                case measure => simp [intOf]; omega
        · by_cases hoff : isOff ⟨a, d⟩ 1
          · have hstep : Hid (r.at_ m (k + 1) = ⟨0, 1⟩) := by show _ = _; rw [Rq.at_succ, HAD.out, Rq.want, HRR.out]; show legS dead ⟨a, d⟩ (wantF (f m) (o m) k trip) = _; rw [hv]; exact if_pos hoff
            obtain ⟨hof1, hof2⟩ : a ≠ 0 ∧ a ≠ 1 := hoff
            have hb1 : (a != 0) = true := by simpa using hof1
            have hb2 : (a != 1) = true := by simpa using hof2
            have hb3 : (a == 0) = false := by simpa using hof1
            have hb4 : (a == 1) = false := by simpa using hof2
            go_wp2
            go_roundw
            case rel =>
              refine ⟨m + 1, by omega, by go_num, ?_, (((hwas.far (by simp <;> omega) _).far (by simp <;> omega) _).far (by simp <;> omega) _)⟩
              have h4 := ((hrs.set hG2 (m * 2) (.int .i64 0)).set hG2 (m * 2 + 1) (.int .i64 0)).set hG2 (m * 2 + 1) (.int .i64 1)
              have e4 := cellsL_set3 (fun l => r.at_ l (k + 1)) (fun l => r.at_ l k) hmn (.int .i64 0)
              simp only [hstep.out] at e4
              rw [e4] at h4
              exact h4
            case measure => simp [intOf]; omega
          · by_cases hon : isOn dead ⟨a, d⟩ 1
            · have hstep : Hid (r.at_ m (k + 1) = ⟨1, min (d + 1) 4096⟩) := by show _ = _; rw [Rq.at_succ, HAD.out, Rq.want, HRR.out]; show legS dead ⟨a, d⟩ (wantF (f m) (o m) k trip) = _; rw [hv]; exact (if_neg hoff).trans (if_pos hon)
              obtain ⟨hon1, _, hon3⟩ : a = 0 ∧ (1 : Int) ≠ 0 ∧ dead ≤ d := hon
              subst hon1
              clear hoff
              go_wp2
              go_roundw
              case rel =>
                refine ⟨m + 1, by omega, by go_num, ?_, ((hwas.far (by simp <;> omega) _).far (by simp <;> omega) _)⟩
                have h4 := (hrs.set hG2 (m * 2) (.int .i64 1)).set hG2 (m * 2 + 1) (.int .i64 (min (d + 1) 4096))
                have e4 := cellsL_set (fun l => r.at_ l (k + 1)) (fun l => r.at_ l k) hmn
                simp only [hstep.out] at e4
                rw [e4] at h4
                first | exact h4 | (rw [EMIN.out] at h4; exact h4) | (rw [show min (d + 1) 4096 = d + 1 by omega] at h4; exact h4)
              case measure => simp [intOf]; omega
            · have hstep : Hid (r.at_ m (k + 1) = ⟨a, min (d + 1) 4096⟩) := by show _ = _; rw [Rq.at_succ, HAD.out, Rq.want, HRR.out]; show legS dead ⟨a, d⟩ (wantF (f m) (o m) k trip) = _; rw [hv]; exact (if_neg hoff).trans (if_neg hon)
              have hcase : a = 1 ∨ (a = 0 ∧ d < dead) := by
                unfold isOff at hoff
                unfold isOn at hon
                simp only at hoff hon
                omega
              clear hoff hon
              rcases hcase with hn1 | ⟨hn1, hn3⟩
              all_goals
                subst hn1
                go_wp2
                go_roundw
                case rel =>
                  refine ⟨m + 1, by omega, by go_num, ?_, (hwas.far (by simp <;> omega) _)⟩
                  have h4 := hrs.set hG2 (m * 2 + 1) (.int .i64 (min (d + 1) 4096))
                  have e4 := cellsL_set_s (fun l => r.at_ l (k + 1)) (fun l => r.at_ l k) hmn (by simp only [hstep.out, HAD.out])
                  simp only [hstep.out] at e4
                  rw [e4] at h4
                  first | exact h4 | (rw [EMIN.out] at h4; exact h4) | (rw [show min (d + 1) 4096 = d + 1 by omega] at h4; exact h4)
                case measure => simp [intOf]; omega
        · by_cases hoff : isOff ⟨a, d⟩ 1
          · have hstep : Hid (r.at_ m (k + 1) = ⟨0, 1⟩) := by show _ = _; rw [Rq.at_succ, HAD.out, Rq.want, HRR.out]; show legS dead ⟨a, d⟩ (wantF (f m) (o m) k trip) = _; rw [hv]; exact if_pos hoff
            obtain ⟨hof1, hof2⟩ : a ≠ 0 ∧ a ≠ 1 := hoff
            have hb1 : (a != 0) = true := by simpa using hof1
            have hb2 : (a != 1) = true := by simpa using hof2
            have hb3 : (a == 0) = false := by simpa using hof1
            have hb4 : (a == 1) = false := by simpa using hof2
            go_wp2
            go_roundw
            case rel =>
              refine ⟨m + 1, by omega, by go_num, ?_, (((hwas.far (by simp <;> omega) _).far (by simp <;> omega) _).far (by simp <;> omega) _)⟩
              have h4 := ((hrs.set hG2 (m * 2) (.int .i64 0)).set hG2 (m * 2 + 1) (.int .i64 0)).set hG2 (m * 2 + 1) (.int .i64 1)
              have e4 := cellsL_set3 (fun l => r.at_ l (k + 1)) (fun l => r.at_ l k) hmn (.int .i64 0)
              simp only [hstep.out] at e4
              rw [e4] at h4
              exact h4
            case measure => simp [intOf]; omega
          · by_cases hon : isOn dead ⟨a, d⟩ 1
            · have hstep : Hid (r.at_ m (k + 1) = ⟨1, min (d + 1) 4096⟩) := by show _ = _; rw [Rq.at_succ, HAD.out, Rq.want, HRR.out]; show legS dead ⟨a, d⟩ (wantF (f m) (o m) k trip) = _; rw [hv]; exact (if_neg hoff).trans (if_pos hon)
              obtain ⟨hon1, _, hon3⟩ : a = 0 ∧ (1 : Int) ≠ 0 ∧ dead ≤ d := hon
              subst hon1
              clear hoff
              go_wp2
              go_roundw
              case rel =>
                refine ⟨m + 1, by omega, by go_num, ?_, ((hwas.far (by simp <;> omega) _).far (by simp <;> omega) _)⟩
                have h4 := (hrs.set hG2 (m * 2) (.int .i64 1)).set hG2 (m * 2 + 1) (.int .i64 (min (d + 1) 4096))
                have e4 := cellsL_set (fun l => r.at_ l (k + 1)) (fun l => r.at_ l k) hmn
                simp only [hstep.out] at e4
                rw [e4] at h4
                first | exact h4 | (rw [EMIN.out] at h4; exact h4) | (rw [show min (d + 1) 4096 = d + 1 by omega] at h4; exact h4)
              case measure => simp [intOf]; omega
            · have hstep : Hid (r.at_ m (k + 1) = ⟨a, min (d + 1) 4096⟩) := by show _ = _; rw [Rq.at_succ, HAD.out, Rq.want, HRR.out]; show legS dead ⟨a, d⟩ (wantF (f m) (o m) k trip) = _; rw [hv]; exact (if_neg hoff).trans (if_neg hon)
              have hcase : a = 1 ∨ (a = 0 ∧ d < dead) := by
                unfold isOff at hoff
                unfold isOn at hon
                simp only at hoff hon
                omega
              clear hoff hon
              rcases hcase with hn1 | ⟨hn1, hn3⟩
              all_goals
                subst hn1
                go_wp2
                go_roundw
                case rel =>
                  refine ⟨m + 1, by omega, by go_num, ?_, (hwas.far (by simp <;> omega) _)⟩
                  have h4 := hrs.set hG2 (m * 2 + 1) (.int .i64 (min (d + 1) 4096))
                  have e4 := cellsL_set_s (fun l => r.at_ l (k + 1)) (fun l => r.at_ l k) hmn (by simp only [hstep.out, HAD.out])
                  simp only [hstep.out] at e4
                  rw [e4] at h4
                  first | exact h4 | (rw [EMIN.out] at h4; exact h4) | (rw [show min (d + 1) 4096 = d + 1 by omega] at h4; exact h4)
                case measure => simp [intOf]; omega
      · obtain rfl : m = 3 := by omega
        rw [cellsL_mix3] at hrs
        obtain ⟨y0, y1, y2, y3, y4, y5⟩ := hrs.s.c6
        have hon := ron_walk (r.at_ 0 (k + 1)).s (r.at_ 0 (k + 1)).j (r.at_ 1 (k + 1)).s (r.at_ 1 (k + 1)).j (r.at_ 2 (k + 1)).s (r.at_ 2 (k + 1)).j
        obtain ⟨qb, hqb⟩ : ∃ q, onQ (fun l => r.at_ l (k + 1)) = q := ⟨_, rfl⟩
        have hon' : ∀ W, Calls Try.prog 70 #[.agg #[.int .i64 (r.at_ 0 (k + 1)).s, .int .i64 (r.at_ 0 (k + 1)).j, .int .i64 (r.at_ 1 (k + 1)).s, .int .i64 (r.at_ 1 (k + 1)).j, .int .i64 (r.at_ 2 (k + 1)).s, .int .i64 (r.at_ 2 (k + 1)).j]] W fun e w' => e = .returned (.agg #[.bool (qb 0), .bool (qb 1), .bool (qb 2), .bool (qb 3), .bool (qb 4), .bool (qb 5)]) ∧ Below W.heap.size W w' := by rw [← hqb]; exact hon
        have HON2 := hide hon'
        have htick := swE_tick (r := r) (by rw [HRR.out]; exact HLK.out) k
        rw [hqb, HQA.out] at htick
        have HTK := Lib.hid htick
        clear hon hon' hqb htick
        go_wp2_with fail
        refine ((unhide HON2) _).mono ?_
        rintro e w4 ⟨rfl, hb5⟩
        have hrs4 := hrs.below hb5
        have hwas4 := hwas.below hb5 hwas.lt
        clear hrs hwas hb5 y0 y1 y2 y3 y4 y5
        go_wp2
        go_loopw [134] (fun i wr => ∃ (j : Nat) (v : Value) (pm : List Ed), j ≤ 6 ∧ i = .int .i64 j ∧ Hid (pre ++ swE k qa qb j = pm) ∧ RS w wr w2.heap.size #[.int .i64 per, .bool c0, .bool c1, .bool c2, .bool c3, .bool c4, .bool c5, v] (cellsL (fun l => r.at_ l (k + 1))) (cellsP f o) v pm.length (pm.map Ed.row).flatten ∧ Blk wr w3.heap.size 22 (cellsB qa)) (fun i _ => 6 - (intOf i).toNat)
        case atStart => exact ⟨0, .slice A1 Lp c1', pre, by omega, rfl, by show _ = _; simp [swE], by rw [HLP.out]; exact hrs4, hwas4⟩
        case round =>
        clear hrs4 hwas4
        obtain ⟨j, v, pm, hj, rfl, hpm, hrs, hwas⟩ := hrel
        by_cases hj6 : (j : Int) < 6
        · have hjn : j < 6 := by omega
          have hpl2 : pm.length ≤ 20000 := by
            rw [← hpm.out, List.length_append, HLP.out]
            have := swE_len k qa qb j
            omega
          obtain ⟨A2, c2', rfl, _, _⟩ := Sl.of_own (rs := pm.map Ed.row) hrs.own (by simp [Ed.row]) (by simp)
          obtain ⟨Lq, hLq⟩ : ∃ Lq, pm.length = Lq := ⟨_, rfl⟩
          rw [hLq] at hrs hpl2
          have HLQ := Lib.hid hLq
          clear hLq
          have hix := index_six qb hjn
          have hwj : wr.cell? ⟨w3.heap.size, j, none⟩ = some (.bool (qa j)) := (hwas.cell _).trans (cellsB_at qa hjn)
          have hnx : swE k qa qb (j + 1) = swE k qa qb j ++ (if qb j = qa j then [] else [⟨k, j, qb j⟩]) := rfl
          obtain ⟨bb, hbb⟩ : ∃ b, qb j = b := ⟨_, rfl⟩
          obtain ⟨ba, hba⟩ : ∃ b, qa j = b := ⟨_, rfl⟩
          rw [hbb] at hix hnx
          rw [hba] at hwj hnx
          have HNX := Lib.hid hnx
          clear hnx hbb hba
          have hone : ∀ b : Bool, ∀ u ∈ [Value.int .i64 k, .int .i64 j, .bool b], u.oneCell' = true := by
            intro b u hu; simp at hu; rcases hu with h | h | h <;> subst h <;> rfl
          cases bb <;> cases ba
          · go_wp2
            go_roundw
            case rel => exact ⟨j + 1, .slice A2 Lq c2', pm, by omega, by go_num, by show _ = _; rw [HNX.out]; simpa using hpm.out, by rw [HLQ.out]; exact hrs, hwas⟩
            case measure => simp [intOf]; omega
          · obtain ⟨x0, x1, x2, x3, x4, x5, x6, x7⟩ := hrs.g.c8
            have hsG : w2.heap.size < wr.heap.size := hrs.g.lt
            go_wp2_with (at_builtin; refine wpList_append_own _ rfl _ _ 23 rfl (w2.heap.size + 1) 37 q0 _ 3 24 Try.underlying23 hi hz0 hz1 hz2 rfl (by decide) _ _ _ rfl (World.ownsRow.alloc hrs.own _) ⟨wr.heap.size, 0, none⟩ 1 1 [.int .i64 k, .int .i64 j, .bool false] rfl rfl ?cb1 ?cb2 ?cb3 ?cb4 ?cb5 ?_)
            case cb1 => exact news_alloc _ [_, _, _] _ _ (by simp)
            case cb2 => exact hone false
            case cb3 => unfold maxLen; omega
            case cb4 => omega
            case cb5 => simp; omega
            intro v' w5 hown' hgrow _
            obtain ⟨g5, c5', rfl, _, _⟩ := own_form hown' (by omega)
            have hrs5 := RS.appP hrs hG2 _ hgrow hown'
            have hwas5 := ((hwas.alloc (.cells #[.int .i64 k, .int .i64 j, .bool false] 37)).grown hgrow (fun h => by have := own_blk_ne hrs.own hwas (by decide); exact this h.symm)).far (p := ⟨w2.heap.size, 7, none⟩) (by simp <;> omega) (.slice (some ⟨g5, 0, none⟩) (Lq + 1) c5')
            have fr := ((hrs.g.alloc (.cells #[.int .i64 k, .int .i64 j, .bool false] 37)).grown hgrow (own_ne hrs.own (.inl (Nat.lt_succ_self _)))).frozen 7
            have q7 := ((hrs.g.alloc (.cells #[.int .i64 k, .int .i64 j, .bool false] 37)).grown hgrow (own_ne hrs.own (.inl (Nat.lt_succ_self _)))).c8.2.2.2.2.2.2.2
            clear hgrow x0 x1 x2 x3 x4 x5 x6 x7
            go_wp2
            go_roundw
            case rel =>
              refine ⟨j + 1, .slice (some ⟨g5, 0, none⟩) (Lq + 1) c5', pm ++ [⟨k, j, false⟩], by omega, by go_num, ?_, ?_, hwas5⟩
              · show _ = _
                rw [HNX.out, ← List.append_assoc, hpm.out]
                rfl
              · simpa [Ed.row, List.flatten_append, HLQ.out] using hrs5
            case measure => simp [intOf]; omega
          · obtain ⟨x0, x1, x2, x3, x4, x5, x6, x7⟩ := hrs.g.c8
            have hsG : w2.heap.size < wr.heap.size := hrs.g.lt
            go_wp2_with (at_builtin; refine wpList_append_own _ rfl _ _ 23 rfl (w2.heap.size + 1) 37 q0 _ 3 24 Try.underlying23 hi hz0 hz1 hz2 rfl (by decide) _ _ _ rfl (World.ownsRow.alloc hrs.own _) ⟨wr.heap.size, 0, none⟩ 1 1 [.int .i64 k, .int .i64 j, .bool true] rfl rfl ?cb1 ?cb2 ?cb3 ?cb4 ?cb5 ?_)
            case cb1 => exact news_alloc _ [_, _, _] _ _ (by simp)
            case cb2 => exact hone true
            case cb3 => unfold maxLen; omega
            case cb4 => omega
            case cb5 => simp; omega
            intro v' w5 hown' hgrow _
            obtain ⟨g5, c5', rfl, _, _⟩ := own_form hown' (by omega)
            have hrs5 := RS.appP hrs hG2 _ hgrow hown'
            have hwas5 := ((hwas.alloc (.cells #[.int .i64 k, .int .i64 j, .bool true] 37)).grown hgrow (fun h => by have := own_blk_ne hrs.own hwas (by decide); exact this h.symm)).far (p := ⟨w2.heap.size, 7, none⟩) (by simp <;> omega) (.slice (some ⟨g5, 0, none⟩) (Lq + 1) c5')
            have fr := ((hrs.g.alloc (.cells #[.int .i64 k, .int .i64 j, .bool true] 37)).grown hgrow (own_ne hrs.own (.inl (Nat.lt_succ_self _)))).frozen 7
            have q7 := ((hrs.g.alloc (.cells #[.int .i64 k, .int .i64 j, .bool true] 37)).grown hgrow (own_ne hrs.own (.inl (Nat.lt_succ_self _)))).c8.2.2.2.2.2.2.2
            clear hgrow x0 x1 x2 x3 x4 x5 x6 x7
            go_wp2
            go_roundw
            case rel =>
              refine ⟨j + 1, .slice (some ⟨g5, 0, none⟩) (Lq + 1) c5', pm ++ [⟨k, j, true⟩], by omega, by go_num, ?_, ?_, hwas5⟩
              · show _ = _
                rw [HNX.out, ← List.append_assoc, hpm.out]
                rfl
              · simpa [Ed.row, List.flatten_append, HLQ.out] using hrs5
            case measure => simp [intOf]; omega
          · go_wp2
            go_roundw
            case rel => exact ⟨j + 1, .slice A2 Lq c2', pm, by omega, by go_num, by show _ = _; rw [HNX.out]; simpa using hpm.out, by rw [HLQ.out]; exact hrs, hwas⟩
            case measure => simp [intOf]; omega
        · obtain rfl : j = 6 := by omega
          go_wp2
          go_roundw
          case rel =>
            refine ⟨k + 1, v, pm, by omega, by go_num, ?_, hrs⟩
            show _ = _
            rw [Rq.es_succ, hpre.out, ← HTK.out, hpm.out]
          case measure => simp [intOf]; omega
    · obtain rfl : k = per.toNat := by omega
      obtain ⟨A1, c1', rfl, _, _⟩ := Sl.of_own (rs := pre.map Ed.row) hrs.own (by simp [Ed.row]) (by simp)
      obtain ⟨x0, x1, x2, x3, x4, x5, x6, x7⟩ := hrs.g.c8
      obtain ⟨y0, y1, y2, y3, y4, y5⟩ := hrs.s.c6
      obtain ⟨u0, u1, u2, u3, u4, u5, u6, u7⟩ := hrs.r1.c8
      obtain ⟨z0, z1, z2, z3, z4, z5⟩ := hrs.r2.c6
      have fr0 := hrs.r1.frozen 0
      have fr1 := hrs.r1.frozen 1
      have fr2 := hrs.r1.frozen 2
      have fr3 := hrs.r1.frozen 3
      have fr4 := hrs.r1.frozen 4
      have fr5 := hrs.r1.frozen 5
      have fr6 := hrs.r1.frozen 6
      have fr7 := hrs.r1.frozen 7
      have fz0 := hrs.r2.frozen 0
      have fz1 := hrs.r2.frozen 1
      have fz2 := hrs.r2.frozen 2
      have fz3 := hrs.r2.frozen 3
      have fz4 := hrs.r2.frozen 4
      have fz5 := hrs.r2.frozen 5
      obtain ⟨wo, rfl⟩ : ∃ wo : World, wo = wr := ⟨_, rfl⟩
      go_wp2
      go_region
      all_goals
        go_wp2
        refine bodyPost_ret (ret_cct rfl rfl rfl (load_gates (Blk.drew ((((((((((((((hrs.r1.set_ 0 _).set_ 1 _).set_ 2 _).set_ 3 _).set_ 4 _).set_ 5 _).set_ 6 _).set_ 7 _).far (by simp <;> omega) _).far (by simp <;> omega) _).far (by simp <;> omega) _).far (by simp <;> omega) _).far (by simp <;> omega) _).far (by simp <;> omega) _))) (load_legs (Blk.drew ((((((((((((((hrs.r2.far (by simp <;> omega) _).far (by simp <;> omega) _).far (by simp <;> omega) _).far (by simp <;> omega) _).far (by simp <;> omega) _).far (by simp <;> omega) _).far (by simp <;> omega) _).far (by simp <;> omega) _).set_ 0 _).set_ 1 _).set_ 2 _).set_ 3 _).set_ 4 _).set_ 5 _)))) rfl ?_
        obtain ⟨A2, c2', hA2, hsl, _⟩ := Sl.of_own (rs := pre.map Ed.row) (World.ownsRow.drew (ownsRow_setCell_below (a := ⟨w.heap.size + 1 + 1 + 1, 5, none⟩) (ownsRow_setCell_below (a := ⟨w.heap.size + 1 + 1 + 1, 4, none⟩) (ownsRow_setCell_below (a := ⟨w.heap.size + 1 + 1 + 1, 3, none⟩) (ownsRow_setCell_below (a := ⟨w.heap.size + 1 + 1 + 1, 2, none⟩) (ownsRow_setCell_below (a := ⟨w.heap.size + 1 + 1 + 1, 1, none⟩) (ownsRow_setCell_below (a := ⟨w.heap.size + 1 + 1 + 1, 0, none⟩) (ownsRow_setCell_below (a := ⟨w.heap.size + 1 + 1, 7, none⟩) (ownsRow_setCell_below (a := ⟨w.heap.size + 1 + 1, 6, none⟩) (ownsRow_setCell_below (a := ⟨w.heap.size + 1 + 1, 5, none⟩) (ownsRow_setCell_below (a := ⟨w.heap.size + 1 + 1, 4, none⟩) (ownsRow_setCell_below (a := ⟨w.heap.size + 1 + 1, 3, none⟩) (ownsRow_setCell_below (a := ⟨w.heap.size + 1 + 1, 2, none⟩) (ownsRow_setCell_below (a := ⟨w.heap.size + 1 + 1, 1, none⟩) (ownsRow_setCell_below (a := ⟨w.heap.size + 1 + 1, 0, none⟩) hrs.own (by simp <;> omega) _) (by simp <;> omega) _) (by simp <;> omega) _) (by simp <;> omega) _) (by simp <;> omega) _) (by simp <;> omega) _) (by simp <;> omega) _) (by simp <;> omega) _) (by simp <;> omega) _) (by simp <;> omega) _) (by simp <;> omega) _) (by simp <;> omega) _) (by simp <;> omega) _) (by simp <;> omega) _)) (by simp [Ed.row]) (by simp)
        injection hA2 with hA2 _ _
        subst hA2
        refine ⟨A1, pre.length, c1', ?_, ?_, ?_, ?_⟩
        · rw [HC0.out, HC1.out, HC2.out, HC3.out, HC4.out, HC5.out]
          rfl
        · rw [hpre.out]
        · rw [hpre.out]; exact hsl
        · exact Below.drew ((((((((((((((hrs.b.setCell (by simp <;> omega) _).setCell (by simp <;> omega) _).setCell (by simp <;> omega) _).setCell (by simp <;> omega) _).setCell (by simp <;> omega) _).setCell (by simp <;> omega) _).setCell (by simp <;> omega) _).setCell (by simp <;> omega) _).setCell (by simp <;> omega) _).setCell (by simp <;> omega) _).setCell (by simp <;> omega) _).setCell (by simp <;> omega) _).setCell (by simp <;> omega) _).setCell (by simp <;> omega) _)

end Go.Proofs.Ytgnojdiecgfeaaa
