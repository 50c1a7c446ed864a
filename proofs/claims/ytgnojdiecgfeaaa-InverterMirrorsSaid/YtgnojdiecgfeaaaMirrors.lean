/- The walk of the statement InverterMirrors. -/
import Derived.Test.YtgnojdiecgfeaaaPlainF
import Derived.Test.YtgnojdiecgfeaaaOwnSet
import Derived.Test.YtgnojdiecgfeaaaBreak
import Derived.Test.YtgnojdiecgfeaaaAwakeI
import Derived.OneCell
import Derived.BigRegion
namespace Go.Proofs.Ytgnojdiecgfeaaa
open Go.RowKit

theorem clipI_in (i : Int) : -2097152 ≤ clipI i (-2097152) 2097152 ∧ clipI i (-2097152) 2097152 ≤ 2097152 := by
  unfold clipI; split
  · omega
  · split <;> omega
theorem clip_flip {i : Int} (h : i ≠ 0) : decide (-clipI i (-2097152) 2097152 < 0) = !decide (i < 0) := by
  have h1 : (-clipI i (-2097152) 2097152 < 0) ↔ ¬ (i < 0) := by
    unfold clipI; split
    · omega
    · split <;> omega
  rw [decide_eq_decide.2 h1, decide_not]

theorem xor1_0 : bits .xor .i64 0 1 = 1 := by decide
theorem xor1_1 : bits .xor .i64 1 1 = 0 := by decide
theorem xor1_2 : bits .xor .i64 2 1 = 3 := by decide
theorem xor1_3 : bits .xor .i64 3 1 = 2 := by decide
theorem xor1_4 : bits .xor .i64 4 1 = 5 := by decide
theorem xor1_5 : bits .xor .i64 5 1 = 4 := by decide

set_option maxRecDepth 100000 in
set_option maxHeartbeats 6400000 in
theorem inverterMirrors_walk (per : Int) (b0 b1 b2 b3 b4 b5 : Bool) (A : Option Addr) (n c : Nat) (es : List Ed) (i0 i1 i2 : Int) (w : World) (hE : Sl w w.heap.size 3 A (es.map Ed.row)) (hn : n = es.length) :
    Calls Try.prog 4 #[.agg #[.int .i64 per, .bool b0, .bool b1, .bool b2, .bool b3, .bool b4, .bool b5, .slice A n c], .agg #[.int .i64 i0, .int .i64 i1, .int .i64 i2]] w fun e w' => e = .returned (.bool true) ∧ Below w.heap.size w w' := by
  have HN := Lib.hid hn
  clear hn
  have hb0 := ((Below.refl w.heap.size w).alloc (Nat.le_refl _) (.cells #[.int .i64 per, .bool b0, .bool b1, .bool b2, .bool b3, .bool b4, .bool b5, .slice A n c] 25)).alloc (by simp) (.cells #[.int .i64 i0, .int .i64 i1, .int .i64 i2] 26)
  have g0 := (Blk.new w 25 #[.int .i64 per, .bool b0, .bool b1, .bool b2, .bool b3, .bool b4, .bool b5, .slice A n c]).alloc (.cells #[.int .i64 i0, .int .i64 i1, .int .i64 i2] 26)
  have g1 := Blk.new' (w := w.alloc (.cells #[.int .i64 per, .bool b0, .bool b1, .bool b2, .bool b3, .bool b4, .bool b5, .slice A n c] 25)) (t := 26) (cs := #[.int .i64 i0, .int .i64 i1, .int .i64 i2]) (g := w.heap.size + 1) (by simp)
  by_cases hbig : 500 < n
  · go_enter Try.func4, Try.ntmps4
    go_wp2_with fail
    refine (awake_walk _).mono ?_
    rintro e w1 ⟨rfl, hb1⟩
    have hbb := hb0.trans (hb1.mono (by simp; omega))
    obtain ⟨x0, x1, x2, x3, x4, x5, x6, x7⟩ := (g0.below hb1 g0.lt).c8
    clear hb0 g0 g1 hb1
    go_wp2_with fail
    refine (awake_walk _).mono ?_
    rintro e w2 ⟨rfl, hb2⟩
    have hbc := hbb.trans (hb2.mono hbb.size)
    go_wp2
    go_ret
    exact ⟨rfl, hbc⟩
  · have x0e := xor1_0
    have x1e := xor1_1
    have x2e := xor1_2
    have x3e := xor1_3
    have x4e := xor1_4
    have x5e := xor1_5
    obtain ⟨q0, hi, hz0, hz1, hz2⟩ := info_parts Try.infoEdge
    go_enter Try.func4, Try.ntmps4
    go_wp2_with fail
    refine (awake_walk _).mono ?_
    rintro e w1 ⟨rfl, hb1⟩
    have hb2 := hb0.trans (hb1.mono (by simp; omega))
    have g01 := g0.below hb1 g0.lt
    have g11 := g1.below hb1 g1.lt
    clear hb0 g0 g1 hb1
    obtain ⟨x0, x1, x2, x3, x4, x5, x6, x7⟩ := g01.c8
    have l0 := g01.lt
    have l1 := g11.lt
    go_wp2
    go_loopw [6] (fun i wr => ((i = .int .i64 0 ∧ Blk wr w1.heap.size 25 #[.int .i64 per, .bool false, .bool false, .bool false, .bool false, .bool false, .bool false, .slice none 0 0]) ∨ (i = .int .i64 1 ∧ Blk wr w1.heap.size 25 #[.int .i64 per, .bool b1, .bool false, .bool false, .bool false, .bool false, .bool false, .slice none 0 0]) ∨ (i = .int .i64 2 ∧ Blk wr w1.heap.size 25 #[.int .i64 per, .bool b1, .bool b0, .bool false, .bool false, .bool false, .bool false, .slice none 0 0]) ∨ (i = .int .i64 3 ∧ Blk wr w1.heap.size 25 #[.int .i64 per, .bool b1, .bool b0, .bool b3, .bool false, .bool false, .bool false, .slice none 0 0]) ∨ (i = .int .i64 4 ∧ Blk wr w1.heap.size 25 #[.int .i64 per, .bool b1, .bool b0, .bool b3, .bool b2, .bool false, .bool false, .slice none 0 0]) ∨ (i = .int .i64 5 ∧ Blk wr w1.heap.size 25 #[.int .i64 per, .bool b1, .bool b0, .bool b3, .bool b2, .bool b5, .bool false, .slice none 0 0]) ∨ (i = .int .i64 6 ∧ Blk wr w1.heap.size 25 #[.int .i64 per, .bool b1, .bool b0, .bool b3, .bool b2, .bool b5, .bool b4, .slice none 0 0])) ∧ Blk wr w.heap.size 25 #[.int .i64 per, .bool b0, .bool b1, .bool b2, .bool b3, .bool b4, .bool b5, .slice A n c] ∧ Blk wr (w.heap.size + 1) 26 #[.int .i64 i0, .int .i64 i1, .int .i64 i2] ∧ Below w.heap.size w wr) (fun i _ => 6 - (intOf i).toNat)
    case atStart =>
      exact ⟨.inl ⟨rfl, Blk.new _ _ _⟩, g01.alloc _, g11.alloc _, hb2.alloc hb2.size _⟩
    case round =>
    clear g01 g11 hb2 x0 x1 x2 x3 x4 x5 x6 x7
    obtain ⟨hd, hgt, hks, hb⟩ := hrel
    obtain ⟨x0, x1, x2, x3, x4, x5, x6, x7⟩ := hgt.c8
    rcases hd with ⟨rfl, hr⟩ | ⟨rfl, hr⟩ | ⟨rfl, hr⟩ | ⟨rfl, hr⟩ | ⟨rfl, hr⟩ | ⟨rfl, hr⟩ | ⟨rfl, hr⟩
    · cases b1
      all_goals
        obtain ⟨r0, r1, r2, r3, r4, r5, r6, r7⟩ := hr.c8
        have fr := hr.frozen 1
        go_wp2
        go_roundw
        case rel => exact ⟨.inr (.inl ⟨rfl, hr.set_ 1 _⟩), hgt.far (by simp <;> omega) _, hks.far (by simp <;> omega) _, hb.setCell (by simp <;> omega) _⟩
        case measure => simp [intOf]
    · cases b0
      all_goals
        obtain ⟨r0, r1, r2, r3, r4, r5, r6, r7⟩ := hr.c8
        have fr := hr.frozen 2
        go_wp2
        go_roundw
        case rel => exact ⟨.inr (.inr (.inl ⟨rfl, hr.set_ 2 _⟩)), hgt.far (by simp <;> omega) _, hks.far (by simp <;> omega) _, hb.setCell (by simp <;> omega) _⟩
        case measure => simp [intOf]
    · cases b3
      all_goals
        obtain ⟨r0, r1, r2, r3, r4, r5, r6, r7⟩ := hr.c8
        have fr := hr.frozen 3
        go_wp2
        go_roundw
        case rel => exact ⟨.inr (.inr (.inr (.inl ⟨rfl, hr.set_ 3 _⟩))), hgt.far (by simp <;> omega) _, hks.far (by simp <;> omega) _, hb.setCell (by simp <;> omega) _⟩
        case measure => simp [intOf]
    · cases b2
      all_goals
        obtain ⟨r0, r1, r2, r3, r4, r5, r6, r7⟩ := hr.c8
        have fr := hr.frozen 4
        go_wp2
        go_roundw
        case rel => exact ⟨.inr (.inr (.inr (.inr (.inl ⟨rfl, hr.set_ 4 _⟩)))), hgt.far (by simp <;> omega) _, hks.far (by simp <;> omega) _, hb.setCell (by simp <;> omega) _⟩
        case measure => simp [intOf]
    · cases b5
      all_goals
        obtain ⟨r0, r1, r2, r3, r4, r5, r6, r7⟩ := hr.c8
        have fr := hr.frozen 5
        go_wp2
        go_roundw
        case rel => exact ⟨.inr (.inr (.inr (.inr (.inr (.inl ⟨rfl, hr.set_ 5 _⟩))))), hgt.far (by simp <;> omega) _, hks.far (by simp <;> omega) _, hb.setCell (by simp <;> omega) _⟩
        case measure => simp [intOf]
    · cases b4
      all_goals
        obtain ⟨r0, r1, r2, r3, r4, r5, r6, r7⟩ := hr.c8
        have fr := hr.frozen 6
        go_wp2
        go_roundw
        case rel => exact ⟨.inr (.inr (.inr (.inr (.inr (.inr (⟨rfl, hr.set_ 6 _⟩)))))), hgt.far (by simp <;> omega) _, hks.far (by simp <;> omega) _, hb.setCell (by simp <;> omega) _⟩
        case measure => simp [intOf]
    · obtain ⟨r0, r1, r2, r3, r4, r5, r6, r7⟩ := hr.c8
      have hlm := hr.lt
      go_wp2
      clear x0e x1e x2e x3e x4e x5e
      obtain ⟨ws, hws⟩ : ∃ ws, ws = wr := ⟨_, rfl⟩
      subst hws
      go_loopw [7] (fun i wr => ∃ (k : Nat) (v : Value) (pre : List Ed), k ≤ n ∧ i = .int .i64 k ∧ Hid (mirror (es.take k) = pre) ∧ Hid (pre.length = k) ∧ wr.ownsRow (w1.heap.size + 1) 37 3 v pre.length (pre.map Ed.row).flatten ∧ Blk wr w1.heap.size 25 #[.int .i64 per, .bool b1, .bool b0, .bool b3, .bool b2, .bool b5, .bool b4, v] ∧ Blk wr w.heap.size 25 #[.int .i64 per, .bool b0, .bool b1, .bool b2, .bool b3, .bool b4, .bool b5, .slice A n c] ∧ Blk wr (w.heap.size + 1) 26 #[.int .i64 i0, .int .i64 i1, .int .i64 i2] ∧ Below w.heap.size w wr) (fun i _ => n - (intOf i).toNat)
      case atStart => exact ⟨0, _, [], Nat.zero_le _, rfl, rfl, rfl, World.ownsRow_nil _ _ _ _, hr, hgt, hks, hb⟩
      case round =>
      clear hr hgt hks hb x0 x1 x2 x3 x4 x5 x6 x7 r0 r1 r2 r3 r4 r5 r6 r7 hlm
      obtain ⟨k, v, pre, hk, rfl, hpre, hpl, hown, hr, hgt, hks, hb⟩ := hrel
      have hpk : pre.length ≤ k := Nat.le_of_eq hpl.out
      obtain ⟨A1, c1, rfl, _, _⟩ := Sl.of_own (rs := pre.map Ed.row) hown (by simp [Ed.row]) (by simp)
      obtain ⟨L, hL⟩ : ∃ L, pre.length = L := ⟨_, rfl⟩
      rw [hL] at hown hr hpl hpk
      have HL := Lib.hid hL
      clear hL
      obtain ⟨x0, x1, x2, x3, x4, x5, x6, x7⟩ := hgt.c8
      obtain ⟨r0, r1, r2, r3, r4, r5, r6, r7⟩ := hr.c8
      have hlm := hr.lt
      by_cases hlt : k < n
      · have hkl : k < es.length := by have := HN.out; omega
        obtain ⟨e, he⟩ : ∃ e, es[k]? = some e := ⟨_, List.getElem?_eq_getElem hkl⟩
        obtain ⟨ad, p, rfl, hpa, hpb, e0, e1, e2⟩ := (hE.below hb).three (k := k) (x := .int .i64 e.t) (y := .int .i64 e.s) (z := .bool e.o) (by rw [List.getElem?_map, he]; rfl)
        have hpb1 : p.block < wr.heap.size := by omega
        have hpre' := mirror_take he
        rw [hpre.out] at hpre'
        have HP := Lib.hid hpre'
        clear he hpre'
        obtain ⟨s1, hs1⟩ : ∃ s1, fl e.s = s1 := ⟨_, rfl⟩
        have hs1' : bits .xor .i64 e.s 1 = s1 := hs1
        have HS := Lib.hid hs1
        clear hs1
        go_wp2_with (at_builtin; go_loud (refine wpList_append_own _ rfl _ _ 23 rfl (w1.heap.size + 1) 37 q0 _ 3 24 Try.underlying23 hi hz0 hz1 hz2 rfl (by decide) _ _ _ rfl ((hown.alloc _).alloc _) ⟨wr.heap.size + 1, 0, none⟩ 1 1 [.int .i64 e.t, .int .i64 s1, .bool e.o] rfl rfl ?cc1 ?cc2 ?cc3 ?cc4 ?cc5 ?_))
        case cc1 => exact news_alloc _ [_, _, _] _ _ (by simp)
        case cc2 => intro u hu; simp at hu; rcases hu with h | h | h <;> subst h <;> rfl
        case cc3 => unfold maxLen; omega
        case cc4 => omega
        case cc5 => simp; omega
        intro v' w2 hown' hgrow _
        have hne : ∀ g, g < w1.heap.size + 1 ∨ wr.heap.size ≤ g → some g ≠ (Value.slice A1 L c1).ownBlock := fun g hg => own_ne hown hg
        have hge := own_ge hown
        obtain ⟨g2, c2, hv', hg2, hg2l⟩ := own_form hown' (by omega)
        obtain ⟨AD, hAD⟩ : ∃ AD : Addr, (⟨g2, 0, none⟩ : Addr) = AD := ⟨_, rfl⟩
        rw [hAD] at hv'
        subst hv'
        have HAD := Lib.hid hAD
        clear hAD
        have hex := ((Blk.new wr 37 #[.int .i64 e.t, .int .i64 s1, .bool e.o]).alloc (.cells #[.int .i64 e.t, .int .i64 s1, .bool e.o] 37)).grown hgrow (hne _ (.inr (Nat.le_refl _)))
        have hrx := ((hr.alloc (.cells #[.int .i64 e.t, .int .i64 s1, .bool e.o] 37)).alloc (.cells #[.int .i64 e.t, .int .i64 s1, .bool e.o] 37)).grown hgrow (hne _ (by omega))
        have hgtx := ((hgt.alloc (.cells #[.int .i64 e.t, .int .i64 s1, .bool e.o] 37)).alloc (.cells #[.int .i64 e.t, .int .i64 s1, .bool e.o] 37)).grown hgrow (hne _ (by omega))
        have hksx := ((hks.alloc (.cells #[.int .i64 e.t, .int .i64 s1, .bool e.o] 37)).alloc (.cells #[.int .i64 e.t, .int .i64 s1, .bool e.o] 37)).grown hgrow (hne _ (by omega))
        have hbx := ((hb.alloc (by omega) (.cells #[.int .i64 e.t, .int .i64 s1, .bool e.o] 37)).alloc (by simp <;> omega) (.cells #[.int .i64 e.t, .int .i64 s1, .bool e.o] 37)).grown hgrow (by simp <;> omega) (fun g hg => by have := hge g hg; omega)
        have fr := hrx.frozen 7
        clear hgrow hown e0 e1 e2 r0 r1 r2 r3 r4 r5 r6 r7 x0 x1 x2 x3 x4 x5 x6 x7
        have hry : Blk (w2.setCell ⟨w1.heap.size, 7, none⟩ (.slice (some AD) (L + 1) c2)) w1.heap.size 25 #[.int .i64 per, .bool b1, .bool b0, .bool b3, .bool b2, .bool b5, .bool b4, .slice (some AD) (L + 1) c2] := hrx.set_ 7 (.slice (some AD) (L + 1) c2)
        have hgty := hgtx.far (p := ⟨w1.heap.size, 7, none⟩) (by simp <;> omega) (.slice (some AD) (L + 1) c2)
        have hksy := hksx.far (p := ⟨w1.heap.size, 7, none⟩) (by simp <;> omega) (.slice (some AD) (L + 1) c2)
        have hexy := hex.far (p := ⟨w1.heap.size, 7, none⟩) (by simp <;> omega) (.slice (some AD) (L + 1) c2)
        have hby := hbx.setCell (p := ⟨w1.heap.size, 7, none⟩) (by simp <;> omega) (.slice (some AD) (L + 1) c2)
        have howny := ownsRow_setCell_below (a := ⟨w1.heap.size, 7, none⟩) hown' (Nat.lt_succ_self _) (.slice (some AD) (L + 1) c2)
        have q7 := hrx.c8.2.2.2.2.2.2.2
        have hfe : flE e = ⟨e.t, s1, e.o⟩ := by unfold flE; rw [HS.out]
        have HFE := Lib.hid hfe
        clear hfe hex hrx hgtx hksx hbx hown'
        rcases List.eq_nil_or_concat pre with hp0 | ⟨m, q, hp0⟩
        · subst hp0
          obtain rfl : L = 0 := HL.out.symm
          simp only [Nat.zero_add] at hry hgty hksy hexy hby howny
          obtain ⟨q0', q1', q2', q3', q4', q5', q6', q7'⟩ := hry.c8
          obtain ⟨v0, v1, v2⟩ := hexy.c3
          go_wp2
          go_quiet (fail)
          go_wp2
          go_roundw
          case rel =>
            refine ⟨k + 1, _, [⟨e.t, s1, e.o⟩], by omega, by go_num, ?_, ?_, howny, hry, hgty, hksy, below_drewN hby _⟩
            · show _ = _; rw [HP.out, mir1_nil, HFE.out]
            · show _ = _; have := hpl.out; simp; omega
          case measure => simp [intOf]; omega
        · rw [List.concat_eq_append] at hp0
          subst hp0
          obtain ⟨m0, hm0⟩ : ∃ m0, m.length = m0 := ⟨_, rfl⟩
          obtain rfl : L = m0 + 1 := by have := HL.out; simp at this; omega
          have HM0 := Lib.hid hm0
          clear hm0
          obtain ⟨A3, c3, hA3, hsl, _⟩ := Sl.of_own (rs := (m ++ [q] ++ [Ed.mk e.t s1 e.o]).map Ed.row) (n := m0 + 1 + 1) (base := w1.heap.size + 1) (e := 37) (by simpa [Ed.row, List.flatten_append] using howny) (fun r hr => by obtain ⟨x, _, rfl⟩ := List.mem_map.1 hr; rfl) (by simp [HM0.out])
          injection hA3 with hA3 _ hc3
          subst hA3
          subst hc3
          obtain ⟨_, p1, hA4, hp1, hpl1, y0, y1, y2⟩ := hsl.three (k := m0) (x := .int .i64 q.t) (y := .int .i64 q.s) (z := .bool q.o) (by rw [List.getElem?_map, ← HM0.out]; simp [Ed.row])
          injection hA4 with hA4
          subst hA4
          obtain ⟨_, p2, hA4, hp2, hpl2, z0, z1, z2⟩ := hsl.three (k := m0 + 1) (x := .int .i64 e.t) (y := .int .i64 s1) (z := .bool e.o) (by rw [List.getElem?_map, ← HM0.out]; simp [Ed.row])
          injection hA4 with hA4
          subst hA4
          have hfr := own_frozen (by rw [HAD.out]; exact howny)
          have hgp : (0 : Int) < (m0 : Int) + 1 := by omega
          have hgi1 : (m0 : Int) < (m0 : Int) + 1 + 1 := by omega
          have hgi2 : (m0 : Int) + 1 < (m0 : Int) + 1 + 1 := by omega
          have hgi3 : (0 : Int) ≤ (m0 : Int) + 1 := by omega
          have htn : ((m0 : Int) + 1).toNat = m0 + 1 := by omega
          have hm63 : (m0 : Int) + 1 ≤ 1000 := by omega
          obtain ⟨q0', q1', q2', q3', q4', q5', q6', q7'⟩ := hry.c8
          obtain ⟨v0, v1, v2⟩ := hexy.c3
          by_cases ht : q.t = e.t
          · by_cases hs : s1 < q.s
            · have hpn : Hid (mir1 (m ++ [q]) e = m ++ [⟨e.t, s1, e.o⟩, q]) := by show _ = _; rw [mir1_swap ht (by rw [HS.out]; exact hs), HFE.out]
              go_wp2
              go_quiet (fail)
              go_wp2
              obtain ⟨W3, hW3⟩ : ∃ W3, (w2.setCell ⟨w1.heap.size, 7, none⟩ (.slice (some AD) (m0 + 1 + 1) c2)).drewN nq = W3 := ⟨_, rfl⟩
              have hry3 : Blk W3 w1.heap.size 25 #[.int .i64 per, .bool b1, .bool b0, .bool b3, .bool b2, .bool b5, .bool b4, .slice (some AD) (m0 + 1 + 1) c2] := by rw [← hW3]; exact hry
              have hgt3 : Blk W3 w.heap.size 25 #[.int .i64 per, .bool b0, .bool b1, .bool b2, .bool b3, .bool b4, .bool b5, .slice (some ad) n c] := by rw [← hW3]; exact hgty
              have hks3 : Blk W3 (w.heap.size + 1) 26 #[.int .i64 i0, .int .i64 i1, .int .i64 i2] := by rw [← hW3]; exact hksy
              have hb3 : Below w.heap.size w W3 := by rw [← hW3]; exact below_drewN hby _
              have how3 : W3.ownsRow (w1.heap.size + 1) 37 3 (.slice (some AD) (m0 + 1 + 1) c2) (m0 + 1 + 1) ((m.map Ed.row).flatten ++ [.int .i64 q.t, .int .i64 q.s, .bool q.o, .int .i64 e.t, .int .i64 s1, .bool e.o]) := by
                rw [← hW3]
                show World.ownsRow (w2.setCell _ _) _ _ _ _ _ _
                simpa [Ed.row, List.flatten_append] using howny
              have k10 : W3.cell? p1 = some (.int .i64 q.t) := by rw [← hW3]; exact y0
              have k11 : W3.cell? ⟨p1.block, p1.off + 1, none⟩ = some (.int .i64 q.s) := by rw [← hW3]; exact y1
              have k12 : W3.cell? ⟨p1.block, p1.off + 2, none⟩ = some (.bool q.o) := by rw [← hW3]; exact y2
              have k20 : W3.cell? p2 = some (.int .i64 e.t) := by rw [← hW3]; exact z0
              have k21 : W3.cell? ⟨p2.block, p2.off + 1, none⟩ = some (.int .i64 s1) := by rw [← hW3]; exact z1
              have k22 : W3.cell? ⟨p2.block, p2.off + 2, none⟩ = some (.bool e.o) := by rw [← hW3]; exact z2
              have hpe1 : p1 = ⟨g2, m0 * 3, none⟩ := by rw [← hp1, ← HAD.out, add_zero_block]
              have hpe2 : p2 = ⟨g2, m0 * 3 + 3, none⟩ := by rw [← hp2, ← HAD.out, add_zero_block, Nat.add_mul, Nat.one_mul]
              have hfr3 : ∀ i, W3.frozen? ⟨g2, i, none⟩ = false := by rw [← hW3]; exact hfr
              subst hpe1
              subst hpe2
              simp only at k10 k11 k12 k20 k21 k22
              have f10 := hfr3 (m0 * 3)
              have f11 := hfr3 (m0 * 3 + 1)
              have f12 := hfr3 (m0 * 3 + 2)
              have f20 := hfr3 (m0 * 3 + 3)
              have f21 := hfr3 (m0 * 3 + 3 + 1)
              have f22 := hfr3 (m0 * 3 + 3 + 2)
              have hpl1' : g2 < W3.heap.size := by rw [← hW3]; exact hpl1
              rw [hW3]
              clear hW3 hfr3 hfr hry hgty hksy hexy hby howny q0' q1' q2' q3' q4' q5' q6' q7' v0 v1 v2 y0 y1 y2 z0 z1 z2 hsl hpl1 hpl2 q7 fr
              obtain ⟨q0', q1', q2', q3', q4', q5', q6', q7'⟩ := hry3.c8
              go_region
              all_goals go_wp2
              all_goals go_roundw
              case rel =>
                have hne2 : w1.heap.size ≠ g2 := by omega
                have hne3 : w.heap.size ≠ g2 := by omega
                have hne4 : w.heap.size + 1 ≠ g2 := by omega
                have hle2 : w.heap.size ≤ g2 := by omega
                refine ⟨k + 1, .slice (some AD) (m0 + 1 + 1) c2, m ++ [Ed.mk e.t s1 e.o, q], by omega, by go_num, HP.out.trans hpn.out, by show _ = _; have := hpl.out; simp [HM0.out]; omega, ?_, ((((((hry3.far hne2 _).far hne2 _).far hne2 _).far hne2 _).far hne2 _).far hne2 _).drew, ((((((hgt3.far hne3 _).far hne3 _).far hne3 _).far hne3 _).far hne3 _).far hne3 _).drew, ((((((hks3.far hne4 _).far hne4 _).far hne4 _).far hne4 _).far hne4 _).far hne4 _).drew, ((((((hb3.setCell hle2 _).setCell hle2 _).setCell hle2 _).setCell hle2 _).setCell hle2 _).setCell hle2 _).drew⟩
                have hl : (m ++ [Ed.mk e.t s1 e.o, q]).length = m0 + 1 + 1 := by simp [HM0.out]
                have h6 := own_swap3 (m := m0 * 3) (by rw [HAD.out]; exact how3) (by rw [flat_len 3 _ (by simp [Ed.row]), List.length_map, HM0.out])
                rw [HAD.out, ht] at h6
                have e1 : ((m ++ [Ed.mk e.t s1 e.o, q]).map Ed.row).flatten = (m.map Ed.row).flatten ++ [.int .i64 e.t, .int .i64 s1, .bool e.o, .int .i64 e.t, .int .i64 q.s, .bool q.o] := by simp [Ed.row, List.flatten_append, ht]
                rw [hl, e1]
                exact h6.drew
              case measure => simp [intOf]; omega
            · have hpn : Hid (mir1 (m ++ [q]) e = m ++ [q] ++ [⟨e.t, s1, e.o⟩]) := by show _ = _; rw [mir1_plain (by rw [HS.out]; omega), HFE.out]
              go_wp2
              go_quiet (fail)
              go_wp2
              go_roundw
              case rel =>
                refine ⟨k + 1, _, m ++ [q] ++ [⟨e.t, s1, e.o⟩], by omega, by go_num, HP.out.trans hpn.out, by show _ = _; have := hpl.out; simp [HM0.out]; omega, ?_, hry, hgty, hksy, below_drewN hby _⟩
                have hl : (m ++ [q] ++ [Ed.mk e.t s1 e.o]).length = m0 + 1 + 1 := by simp [HM0.out]
                rw [hl]
                show World.ownsRow (w2.setCell _ _) _ _ _ _ _ _
                simpa [Ed.row, List.flatten_append] using howny
              case measure => simp [intOf]; omega
          · have hpn : Hid (mir1 (m ++ [q]) e = m ++ [q] ++ [⟨e.t, s1, e.o⟩]) := by show _ = _; rw [mir1_plain (fun h => ht h.1), HFE.out]
            have hdt : decide (q.t = e.t) = false := decide_eq_false ht
            have hbt : (q.t == e.t) = false := by simpa using ht
            go_wp2
            go_quiet (fail)
            go_wp2
            go_roundw
            case rel =>
              refine ⟨k + 1, _, m ++ [q] ++ [⟨e.t, s1, e.o⟩], by omega, by go_num, HP.out.trans hpn.out, by show _ = _; have := hpl.out; simp [HM0.out]; omega, ?_, hry, hgty, hksy, below_drewN hby _⟩
              have hl : (m ++ [q] ++ [Ed.mk e.t s1 e.o]).length = m0 + 1 + 1 := by simp [HM0.out]
              rw [hl]
              show World.ownsRow (w2.setCell _ _) _ _ _ _ _ _
              simpa [Ed.row, List.flatten_append] using howny
            case measure => simp [intOf]; omega
      · have hkn : k = n := by omega
        subst hkn
        have hfin := hpre.out
        rw [HN.out, List.take_length] at hfin
        have HF := Lib.hid hfin
        obtain ⟨A2, c2, hA2, hsl, _⟩ := Sl.of_own (rs := pre.map Ed.row) hown (by simp [Ed.row]) (by simp [HL.out])
        injection hA2 with hA2 _ hc2
        subst hA2
        subst hc2
        obtain ⟨j0, hj0⟩ : ∃ j, clipI i0 (-2097152) 2097152 = j := ⟨_, rfl⟩
        obtain ⟨j1, hj1⟩ : ∃ j, clipI i1 (-2097152) 2097152 = j := ⟨_, rfl⟩
        obtain ⟨j2, hj2⟩ : ∃ j, clipI i2 (-2097152) 2097152 = j := ⟨_, rfl⟩
        obtain ⟨J00, J01⟩ : -2097152 ≤ j0 ∧ j0 ≤ 2097152 := by rw [← hj0]; exact clipI_in _
        obtain ⟨J10, J11⟩ : -2097152 ≤ j1 ∧ j1 ≤ 2097152 := by rw [← hj1]; exact clipI_in _
        obtain ⟨J20, J21⟩ : -2097152 ≤ j2 ∧ j2 ≤ 2097152 := by rw [← hj2]; exact clipI_in _
        have HJ0 := Lib.hid hj0
        have HJ1 := Lib.hid hj1
        have HJ2 := Lib.hid hj2
        have hhi := fun (wx : World) (hE' : Sl wx wx.heap.size 3 A (es.map Ed.row)) => high_walk per b0 b1 b2 b3 b4 b5 A k c es i0 i1 i2 wx hE' HN.out (by omega)
        have hhm := fun (wx : World) (hE' : Sl wx wx.heap.size 3 A1 (pre.map Ed.row)) => high_walk per b1 b0 b3 b2 b5 b4 A1 L c1 pre (-j0) (-j1) (-j2) wx hE' HL.out.symm (by omega)
        have hre := fun (wx : World) (hE' : Sl wx wx.heap.size 3 A (es.map Ed.row)) => rerror_walk per b0 b1 b2 b3 b4 b5 A k c es wx hE' HN.out (by omega)
        obtain ⟨er, her⟩ : ∃ x, err per [b0, b1, b2, b3, b4, b5] es = x := ⟨_, rfl⟩
        obtain ⟨em, hem⟩ : ∃ x, err per [b1, b0, b3, b2, b5, b4] pre = x := ⟨_, rfl⟩
        obtain ⟨h0, eh0⟩ : ∃ x, hgh per [b0, b1, b2, b3, b4, b5] es 0 i0 = x := ⟨_, rfl⟩
        obtain ⟨h1, eh1⟩ : ∃ x, hgh per [b0, b1, b2, b3, b4, b5] es 1 i1 = x := ⟨_, rfl⟩
        obtain ⟨h2, eh2⟩ : ∃ x, hgh per [b0, b1, b2, b3, b4, b5] es 2 i2 = x := ⟨_, rfl⟩
        obtain ⟨m0, em0⟩ : ∃ x, hgh per [b1, b0, b3, b2, b5, b4] pre 0 (-j0) = x := ⟨_, rfl⟩
        obtain ⟨m1, em1⟩ : ∃ x, hgh per [b1, b0, b3, b2, b5, b4] pre 1 (-j1) = x := ⟨_, rfl⟩
        obtain ⟨m2, em2⟩ : ∃ x, hgh per [b1, b0, b3, b2, b5, b4] pre 2 (-j2) = x := ⟨_, rfl⟩
        have hmir : er = 0 → em = 0 ∧ 64 ≤ per ∧ per ≤ 4096 ∧ (i0 ≠ 0 → m0 = per - h0) ∧ (i1 ≠ 0 → m1 = per - h1) ∧ (i2 ≠ 0 → m2 = per - h2) := by
          rw [← her, ← hem, ← eh0, ← eh1, ← eh2, ← em0, ← em1, ← em2, ← hfin, ← hj0, ← hj1, ← hj2]
          intro hz
          obtain ⟨hp1, hp2, _⟩ := chk_zero (err_ok hz).1
          exact ⟨mirror_err hz rfl, hp1, hp2, fun h => mirror_high hz rfl (by omega) (clip_flip h), fun h => mirror_high hz rfl (by omega) (clip_flip h), fun h => mirror_high hz rfl (by omega) (clip_flip h)⟩
        have hbd0 := @hgh_bd per [b0, b1, b2, b3, b4, b5] es 0 i0
        have hbd1 := @hgh_bd per [b0, b1, b2, b3, b4, b5] es 1 i1
        have hbd2 := @hgh_bd per [b0, b1, b2, b3, b4, b5] es 2 i2
        rw [eh0] at hbd0
        rw [eh1] at hbd1
        rw [eh2] at hbd2
        obtain ⟨hb00, hb01⟩ := hbd0
        obtain ⟨hb10, hb11⟩ := hbd1
        obtain ⟨hb20, hb21⟩ := hbd2
        simp only [her, hem, eh0, eh1, eh2, em0, em1, em2] at hhi hhm hre
        have HHI := hide hhi
        have HHM := hide hhm
        have HRE := hide hre
        have HMI := hide hmir
        clear hhi hhm hre her hem eh0 eh1 eh2 em0 em1 em2 hmir hj0 hj1 hj2 hfin hpre
        have ix0 := index3_0 (.int .i64 i0) (.int .i64 i1) (.int .i64 i2)
        have hrel4 : Blk wr w1.heap.size 25 #[.int .i64 per, .bool b1, .bool b0, .bool b3, .bool b2, .bool b5, .bool b4, .slice A1 L c1] := hr
        clear hr
        obtain ⟨wv, hwv⟩ : ∃ wv, wv = wr := ⟨_, rfl⟩
        subst hwv
        clear ix0
        go_wp2
        go_loopw [11] (fun i wr => ((i = .int .i64 0 ∧ Blk wr wv.heap.size 26 #[.int .i64 0, .int .i64 0, .int .i64 0]) ∨ (i = .int .i64 1 ∧ Blk wr wv.heap.size 26 #[.int .i64 (-j0), .int .i64 0, .int .i64 0]) ∨ (i = .int .i64 2 ∧ Blk wr wv.heap.size 26 #[.int .i64 (-j0), .int .i64 (-j1), .int .i64 0]) ∨ (i = .int .i64 3 ∧ Blk wr wv.heap.size 26 #[.int .i64 (-j0), .int .i64 (-j1), .int .i64 (-j2)])) ∧ Blk wr w1.heap.size 25 #[.int .i64 per, .bool b1, .bool b0, .bool b3, .bool b2, .bool b5, .bool b4, .slice A1 L c1] ∧ Sl wr wv.heap.size 3 A1 (pre.map Ed.row) ∧ Blk wr w.heap.size 25 #[.int .i64 per, .bool b0, .bool b1, .bool b2, .bool b3, .bool b4, .bool b5, .slice A k c] ∧ Blk wr (w.heap.size + 1) 26 #[.int .i64 i0, .int .i64 i1, .int .i64 i2] ∧ Below w.heap.size w wr) (fun i _ => 3 - (intOf i).toNat)
        case atStart => exact ⟨.inl ⟨rfl, Blk.new _ _ _⟩, hrel4.alloc _, hsl.alloc (Nat.le_refl _) _, hgt.alloc _, hks.alloc _, hb.alloc hb.size _⟩
        case round =>
        have lm : w1.heap.size < wv.heap.size := hrel4.lt
        clear hrel4 hsl hgt hks hb hown x0 x1 x2 x3 x4 x5 x6 x7 r0 r1 r2 r3 r4 r5 r6 r7 hlm
        obtain ⟨hd, hr, hsl, hgt, hks, hb⟩ := hrel
        obtain ⟨u0, u1, u2⟩ := hks.c3
        rcases hd with ⟨rfl, hv⟩ | ⟨rfl, hv⟩ | ⟨rfl, hv⟩ | ⟨rfl, hv⟩
        · obtain ⟨z0, z1, z2⟩ := hv.c3
          have fz := hv.frozen 0
          go_wp2_with fail
          refine (clip_b i0 (-2097152) 2097152 (by omega) _).mono ?_
          rintro e w' ⟨rfl, rfl⟩
          rw [HJ0.out]
          go_wp2
          go_roundw
          case rel => exact ⟨.inr (.inl ⟨rfl, hv.set_ 0 _⟩), hr.far (by simp <;> omega) _, hsl.below ((Below.refl wv.heap.size wr).setCell (Nat.le_refl _) _), hgt.far (by simp <;> omega) _, hks.far (by simp <;> omega) _, hb.setCell (by simp <;> omega) _⟩
          case measure => simp [intOf]
        · obtain ⟨z0, z1, z2⟩ := hv.c3
          have fz := hv.frozen 1
          go_wp2_with fail
          refine (clip_b i1 (-2097152) 2097152 (by omega) _).mono ?_
          rintro e w' ⟨rfl, rfl⟩
          rw [HJ1.out]
          go_wp2
          go_roundw
          case rel => exact ⟨.inr (.inr (.inl ⟨rfl, hv.set_ 1 _⟩)), hr.far (by simp <;> omega) _, hsl.below ((Below.refl wv.heap.size wr).setCell (Nat.le_refl _) _), hgt.far (by simp <;> omega) _, hks.far (by simp <;> omega) _, hb.setCell (by simp <;> omega) _⟩
          case measure => simp [intOf]
        · obtain ⟨z0, z1, z2⟩ := hv.c3
          have fz := hv.frozen 2
          go_wp2_with fail
          refine (clip_b i2 (-2097152) 2097152 (by omega) _).mono ?_
          rintro e w' ⟨rfl, rfl⟩
          rw [HJ2.out]
          go_wp2
          go_roundw
          case rel => exact ⟨.inr (.inr (.inr (⟨rfl, hv.set_ 2 _⟩))), hr.far (by simp <;> omega) _, hsl.below ((Below.refl wv.heap.size wr).setCell (Nat.le_refl _) _), hgt.far (by simp <;> omega) _, hks.far (by simp <;> omega) _, hb.setCell (by simp <;> omega) _⟩
          case measure => simp [intOf]
        · obtain ⟨z0, z1, z2⟩ := hv.c3
          obtain ⟨x0, x1, x2, x3, x4, x5, x6, x7⟩ := hgt.c8
          have hvl := hv.lt
          go_wp2_with fail
          refine ((unhide HHI) _ ((hE.below hb).more hb.size)).mono ?_
          rintro e w2 ⟨rfl, hb2⟩
          have hb3 := (hb.trans (hb2.mono hb.size)).alloc (hb.trans (hb2.mono hb.size)).size (.cells #[.int .i64 h0, .int .i64 h1, .int .i64 h2] 26)
          have hgt3 := (hgt.below hb2 hgt.lt).alloc (.cells #[.int .i64 h0, .int .i64 h1, .int .i64 h2] 26)
          have hks3 := (hks.below hb2 hks.lt).alloc (.cells #[.int .i64 h0, .int .i64 h1, .int .i64 h2] 26)
          have hr3 := (hr.below hb2 hr.lt).alloc (.cells #[.int .i64 h0, .int .i64 h1, .int .i64 h2] 26)
          have hv3 := (hv.below hb2 hv.lt).alloc (.cells #[.int .i64 h0, .int .i64 h1, .int .i64 h2] 26)
          have hh3 := Blk.new w2 26 #[.int .i64 h0, .int .i64 h1, .int .i64 h2]
          have hsl3 := ((hsl.more (Nat.le_of_lt hvl)).below hb2).alloc hb2.size (.cells #[.int .i64 h0, .int .i64 h1, .int .i64 h2] 26)
          have hs3 := hb2.size
          have l20 : w.heap.size < w2.heap.size := Nat.lt_of_lt_of_le hgt.lt hs3
          have l21 : w.heap.size + 1 < w2.heap.size := Nat.lt_of_lt_of_le hks.lt hs3
          have l22 : w1.heap.size < w2.heap.size := Nat.lt_of_lt_of_le hr.lt hs3
          have l23 : wv.heap.size < w2.heap.size := Nat.lt_of_lt_of_le hv.lt hs3
          clear hb hb2 hgt hks hr hv hsl x0 x1 x2 x3 x4 x5 x6 x7 u0 u1 u2 z0 z1 z2
          obtain ⟨x0, x1, x2, x3, x4, x5, x6, x7⟩ := hgt3.c8
          go_wp2_with fail
          refine ((unhide HRE) _ ((hE.below hb3).more hb3.size)).mono ?_
          rintro e w3 ⟨rfl, hb4⟩
          have hb5 := hb3.trans (hb4.mono hb3.size)
          have hgt5 := hgt3.below hb4 hgt3.lt
          have hks5 := hks3.below hb4 hks3.lt
          have hr5 := hr3.below hb4 hr3.lt
          have hv5 := hv3.below hb4 hv3.lt
          have hh5 := hh3.below hb4 hh3.lt
          have hsl5 := ((hsl3.more (by have := hs3; simp; omega)).below hb4).more hb4.size
          have l30 : w.heap.size < w3.heap.size := hgt5.lt
          have l31 : w.heap.size + 1 < w3.heap.size := hks5.lt
          have l33 : wv.heap.size < w3.heap.size := hv5.lt
          have l34 : w2.heap.size < w3.heap.size := hh5.lt
          clear hb3 hb4 hgt3 hks3 hr3 hv3 hh3 hsl3 x0 x1 x2 x3 x4 x5 x6 x7
          by_cases he : er = 0
          · obtain ⟨hem, hp1, hp2, q0, q1, q2⟩ := (unhide HMI) he
            subst he
            subst hem
            simp only [errV_zero] at *
            obtain ⟨x0, x1, x2, x3, x4, x5, x6, x7⟩ := hr5.c8
            obtain ⟨z0, z1, z2⟩ := hv5.c3
            go_wp2_with fail
            refine ((unhide HHM) _ hsl5).mono ?_
            rintro e w4 ⟨rfl, hb6⟩
            have hb7 := (hb5.trans (hb6.mono hb5.size)).alloc (hb5.trans (hb6.mono hb5.size)).size (.cells #[.int .i64 m0, .int .i64 m1, .int .i64 m2] 26)
            have hgt7 := (hgt5.below hb6 hgt5.lt).alloc (.cells #[.int .i64 m0, .int .i64 m1, .int .i64 m2] 26)
            have hks7 := (hks5.below hb6 hks5.lt).alloc (.cells #[.int .i64 m0, .int .i64 m1, .int .i64 m2] 26)
            have hh7 := (hh5.below hb6 hh5.lt).alloc (.cells #[.int .i64 m0, .int .i64 m1, .int .i64 m2] 26)
            have hm7 := Blk.new w4 26 #[.int .i64 m0, .int .i64 m1, .int .i64 m2]
            have l40 : w.heap.size < w4.heap.size := Nat.lt_of_lt_of_le l30 hb6.size
            have l41 : w.heap.size + 1 < w4.heap.size := Nat.lt_of_lt_of_le l31 hb6.size
            have l44 : w2.heap.size < w4.heap.size := Nat.lt_of_lt_of_le l34 hb6.size
            clear hb5 hb6 hgt5 hks5 hr5 hv5 hh5 hsl5 x0 x1 x2 x3 x4 x5 x6 x7 z0 z1 z2
            have Q0 := Lib.hid q0
            have Q1 := Lib.hid q1
            have Q2 := Lib.hid q2
            clear q0 q1 q2
            go_wp2
            go_loopw [17] (fun i wr => (i = .int .i64 0 ∨ i = .int .i64 1 ∨ i = .int .i64 2 ∨ i = .int .i64 3) ∧ Blk wr w.heap.size 25 #[.int .i64 per, .bool b0, .bool b1, .bool b2, .bool b3, .bool b4, .bool b5, .slice A k c] ∧ Blk wr (w.heap.size + 1) 26 #[.int .i64 i0, .int .i64 i1, .int .i64 i2] ∧ Blk wr w2.heap.size 26 #[.int .i64 h0, .int .i64 h1, .int .i64 h2] ∧ Blk wr w4.heap.size 26 #[.int .i64 m0, .int .i64 m1, .int .i64 m2] ∧ Below w.heap.size w wr) (fun i _ => 3 - (intOf i).toNat)
            case atStart => exact ⟨.inl rfl, hgt7, hks7, hh7, hm7, hb7⟩
            case round =>
            clear hb7 hgt7 hks7 hh7 hm7
            obtain ⟨hd, hgt, hks, hh, hm, hb⟩ := hrel
            obtain ⟨x0, x1, x2, x3, x4, x5, x6, x7⟩ := hgt.c8
            obtain ⟨u0, u1, u2⟩ := hks.c3
            obtain ⟨y0, y1, y2⟩ := hh.c3
            obtain ⟨z0, z1, z2⟩ := hm.c3
            rcases hd with rfl | rfl | rfl | rfl
            · by_cases hz : i0 = 0
              · have hz1 : (i0 != 0) = false := by simp [hz]
                have hz2 : (i0 == 0) = true := by simp [hz]
                go_wp2
                go_quiet (fail)
                go_wp2
                go_roundw
                case rel => exact ⟨.inr (.inl rfl), hgt, hks, hh, hm, below_drewN hb _⟩
                case measure => simp [intOf]
              · have hmk := Q0.out hz
                have hz1 : (i0 != 0) = true := by simpa using hz
                have hz2 : (i0 == 0) = false := by simpa using hz
                have hwk : IntKind.i64.wrap (per - h0) = m0 := by rw [hmk]; exact IntWalk.i64_in _ (by omega)
                have hbk : (m0 != m0) = false := by simp
                go_wp2
                go_quiet (fail)
                go_wp2
                go_roundw
                case rel => exact ⟨.inr (.inl rfl), hgt, hks, hh, hm, below_drewN hb _⟩
                case measure => simp [intOf]
            · by_cases hz : i1 = 0
              · have hz1 : (i1 != 0) = false := by simp [hz]
                have hz2 : (i1 == 0) = true := by simp [hz]
                go_wp2
                go_quiet (fail)
                go_wp2
                go_roundw
                case rel => exact ⟨.inr (.inr (.inl rfl)), hgt, hks, hh, hm, below_drewN hb _⟩
                case measure => simp [intOf]
              · have hmk := Q1.out hz
                have hz1 : (i1 != 0) = true := by simpa using hz
                have hz2 : (i1 == 0) = false := by simpa using hz
                have hwk : IntKind.i64.wrap (per - h1) = m1 := by rw [hmk]; exact IntWalk.i64_in _ (by omega)
                have hbk : (m1 != m1) = false := by simp
                go_wp2
                go_quiet (fail)
                go_wp2
                go_roundw
                case rel => exact ⟨.inr (.inr (.inl rfl)), hgt, hks, hh, hm, below_drewN hb _⟩
                case measure => simp [intOf]
            · by_cases hz : i2 = 0
              · have hz1 : (i2 != 0) = false := by simp [hz]
                have hz2 : (i2 == 0) = true := by simp [hz]
                go_wp2
                go_quiet (fail)
                go_wp2
                go_roundw
                case rel => exact ⟨.inr (.inr (.inr (rfl))), hgt, hks, hh, hm, below_drewN hb _⟩
                case measure => simp [intOf]
              · have hmk := Q2.out hz
                have hz1 : (i2 != 0) = true := by simpa using hz
                have hz2 : (i2 == 0) = false := by simpa using hz
                have hwk : IntKind.i64.wrap (per - h2) = m2 := by rw [hmk]; exact IntWalk.i64_in _ (by omega)
                have hbk : (m2 != m2) = false := by simp
                go_wp2
                go_quiet (fail)
                go_wp2
                go_roundw
                case rel => exact ⟨.inr (.inr (.inr (rfl))), hgt, hks, hh, hm, below_drewN hb _⟩
                case measure => simp [intOf]
            · go_wp2
              go_ret
              exact ⟨rfl, hb⟩
          · have hne2 : (er != 0) = true := by simpa using he
            go_wp2_with fail
            refine (num_any er _).mono ?_
            rintro e w6 ⟨rfl, rfl⟩
            go_wp2
            go_ret
            exact ⟨by simp, hb5⟩

end Go.Proofs.Ytgnojdiecgfeaaa
