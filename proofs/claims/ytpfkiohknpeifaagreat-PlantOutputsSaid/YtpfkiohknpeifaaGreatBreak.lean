/- The walk of Break. -/
import Derived.Test.YtpfkiohknpeifaaGreatIgC
import Derived.Test.YtpfkiohknpeifaaGreatIgA
import Derived.Test.YtpfkiohknpeifaaGreatIgB
namespace Go.Proofs.YtpfkiohknpeifaaGreat.I
open Go.RowKit

theorem index6_0 (a b c d e f : Value) (w : World) : (Instr.index 48 (.agg #[a, b, c, d, e, f]) (.int .i64 0)).run Tryz.prog w = .ok a w := by kernel_rfl
theorem index6_1 (a b c d e f : Value) (w : World) : (Instr.index 48 (.agg #[a, b, c, d, e, f]) (.int .i64 1)).run Tryz.prog w = .ok b w := by kernel_rfl
theorem index6_2 (a b c d e f : Value) (w : World) : (Instr.index 48 (.agg #[a, b, c, d, e, f]) (.int .i64 2)).run Tryz.prog w = .ok c w := by kernel_rfl
theorem index6_3 (a b c d e f : Value) (w : World) : (Instr.index 48 (.agg #[a, b, c, d, e, f]) (.int .i64 3)).run Tryz.prog w = .ok d w := by kernel_rfl
theorem index6_4 (a b c d e f : Value) (w : World) : (Instr.index 48 (.agg #[a, b, c, d, e, f]) (.int .i64 4)).run Tryz.prog w = .ok e w := by kernel_rfl
theorem index6_5 (a b c d e f : Value) (w : World) : (Instr.index 48 (.agg #[a, b, c, d, e, f]) (.int .i64 5)).run Tryz.prog w = .ok f w := by kernel_rfl
theorem Tryz.infoEdge : (Tryz.prog.info? 143).map (fun i => (i.zero, i.size, i.bytes)) = some (some (.agg #[.int .i64 0, .int .i64 0, .bool false]), 3, 24) := by kernel_rfl
theorem sl_set8 {w : World} {base : Nat} {e : TypeId} {size n c g : Nat} {A : Option Addr} {rs : List (List Value)} (h : w.ownsRow base e size (.slice A n c) n rs.flatten) (hl : ∀ r ∈ rs, r.length = size) (hn : n = rs.length) (hg : g < base) (u0 u1 u2 u3 u4 u5 u6 u7 : Value) :
    Sl ((((((((w.setCell ⟨g, 0, none⟩ u0).setCell ⟨g, 1, none⟩ u1).setCell ⟨g, 2, none⟩ u2).setCell ⟨g, 3, none⟩ u3).setCell ⟨g, 4, none⟩ u4).setCell ⟨g, 5, none⟩ u5).setCell ⟨g, 6, none⟩ u6).setCell ⟨g, 7, none⟩ u7) ((((((((w.setCell ⟨g, 0, none⟩ u0).setCell ⟨g, 1, none⟩ u1).setCell ⟨g, 2, none⟩ u2).setCell ⟨g, 3, none⟩ u3).setCell ⟨g, 4, none⟩ u4).setCell ⟨g, 5, none⟩ u5).setCell ⟨g, 6, none⟩ u6).setCell ⟨g, 7, none⟩ u7).heap.size size A rs := by
  obtain ⟨A', c', hv, hs, _⟩ := Sl.of_own (rs := rs) (ownsRow_setCell_below (a := ⟨g, 7, none⟩) (ownsRow_setCell_below (a := ⟨g, 6, none⟩) (ownsRow_setCell_below (a := ⟨g, 5, none⟩) (ownsRow_setCell_below (a := ⟨g, 4, none⟩) (ownsRow_setCell_below (a := ⟨g, 3, none⟩) (ownsRow_setCell_below (a := ⟨g, 2, none⟩) (ownsRow_setCell_below (a := ⟨g, 1, none⟩) (ownsRow_setCell_below (a := ⟨g, 0, none⟩) h hg u0) hg u1) hg u2) hg u3) hg u4) hg u5) hg u6) hg u7) hl hn
  injection hv with h1 h2 h3
  subst h1
  exact hs
theorem six_get (k0 k1 k2 k3 k4 k5 : Bool) (i : Nat) (h : i ≤ 5) : ∃ x, (#[.bool k0, .bool k1, .bool k2, .bool k3, .bool k4, .bool k5] : Array Value)[i]? = some (.bool x) ∧ [k0, k1, k2, k3, k4, k5].getD i false = x := by
  match i, h with
  | 0, _ => exact ⟨_, rfl, rfl⟩
  | 1, _ => exact ⟨_, rfl, rfl⟩
  | 2, _ => exact ⟨_, rfl, rfl⟩
  | 3, _ => exact ⟨_, rfl, rfl⟩
  | 4, _ => exact ⟨_, rfl, rfl⟩
  | 5, _ => exact ⟨_, rfl, rfl⟩

set_option maxRecDepth 100000 in
set_option maxHeartbeats 1600000 in
theorem break_walk (per : Int) (b0 b1 b2 b3 b4 b5 k0 k1 k2 k3 k4 k5 : Bool) (A : Option Addr) (n c : Nat) (es : List Ed) (w : World) (hE : Sl w w.heap.size 3 A (es.map Ed.row)) (hn : n = es.length) (hm : n ≤ 1000000) :
    Calls Tryz.prog 37 #[.agg #[.int .i64 per, .bool b0, .bool b1, .bool b2, .bool b3, .bool b4, .bool b5, .slice A n c], .agg #[.bool k0, .bool k1, .bool k2, .bool k3, .bool k4, .bool k5]] w fun e w' => ∃ A' n' c',
      e = .returned (.agg #[.int .i64 per, .bool (b0 && !k0), .bool (b1 && !k1), .bool (b2 && !k2), .bool (b3 && !k3), .bool (b4 && !k4), .bool (b5 && !k5), .slice A' n' c']) ∧ n' = (brk [k0, k1, k2, k3, k4, k5] es).length ∧ Sl w' w'.heap.size 3 A' ((brk [k0, k1, k2, k3, k4, k5] es).map Ed.row) ∧ Below w.heap.size w w' := by
  have HN := Lib.hid hn
  clear hn
  have ix0 := index6_0 (.bool k0) (.bool k1) (.bool k2) (.bool k3) (.bool k4) (.bool k5)
  have ix1 := index6_1 (.bool k0) (.bool k1) (.bool k2) (.bool k3) (.bool k4) (.bool k5)
  have ix2 := index6_2 (.bool k0) (.bool k1) (.bool k2) (.bool k3) (.bool k4) (.bool k5)
  have ix3 := index6_3 (.bool k0) (.bool k1) (.bool k2) (.bool k3) (.bool k4) (.bool k5)
  have ix4 := index6_4 (.bool k0) (.bool k1) (.bool k2) (.bool k3) (.bool k4) (.bool k5)
  have ix5 := index6_5 (.bool k0) (.bool k1) (.bool k2) (.bool k3) (.bool k4) (.bool k5)
  obtain ⟨i0, hi, hz0, hz1, hz2⟩ := info_parts Tryz.infoEdge
  have hE4 := hE
  go_enter Tryz.func37, Tryz.ntmps37
  go_wp2
  go_loopw [16] (fun i wr => ((i = .int .i64 0 ∧ Blk wr (w.heap.size + 1 + 1 + 1) 51 #[.int .i64 per, .bool b0, .bool b1, .bool b2, .bool b3, .bool b4, .bool b5, .slice none 0 0]) ∨ (i = .int .i64 1 ∧ Blk wr (w.heap.size + 1 + 1 + 1) 51 #[.int .i64 per, .bool (b0 && !k0), .bool b1, .bool b2, .bool b3, .bool b4, .bool b5, .slice none 0 0]) ∨ (i = .int .i64 2 ∧ Blk wr (w.heap.size + 1 + 1 + 1) 51 #[.int .i64 per, .bool (b0 && !k0), .bool (b1 && !k1), .bool b2, .bool b3, .bool b4, .bool b5, .slice none 0 0]) ∨ (i = .int .i64 3 ∧ Blk wr (w.heap.size + 1 + 1 + 1) 51 #[.int .i64 per, .bool (b0 && !k0), .bool (b1 && !k1), .bool (b2 && !k2), .bool b3, .bool b4, .bool b5, .slice none 0 0]) ∨ (i = .int .i64 4 ∧ Blk wr (w.heap.size + 1 + 1 + 1) 51 #[.int .i64 per, .bool (b0 && !k0), .bool (b1 && !k1), .bool (b2 && !k2), .bool (b3 && !k3), .bool b4, .bool b5, .slice none 0 0]) ∨ (i = .int .i64 5 ∧ Blk wr (w.heap.size + 1 + 1 + 1) 51 #[.int .i64 per, .bool (b0 && !k0), .bool (b1 && !k1), .bool (b2 && !k2), .bool (b3 && !k3), .bool (b4 && !k4), .bool b5, .slice none 0 0]) ∨ (i = .int .i64 6 ∧ Blk wr (w.heap.size + 1 + 1 + 1) 51 #[.int .i64 per, .bool (b0 && !k0), .bool (b1 && !k1), .bool (b2 && !k2), .bool (b3 && !k3), .bool (b4 && !k4), .bool (b5 && !k5), .slice none 0 0])) ∧ Blk wr w.heap.size 51 #[.int .i64 per, .bool b0, .bool b1, .bool b2, .bool b3, .bool b4, .bool b5, .slice A n c] ∧ Blk wr (w.heap.size + 1) 48 #[.bool k0, .bool k1, .bool k2, .bool k3, .bool k4, .bool k5] ∧ Blk wr (w.heap.size + 1 + 1) 51 #[.int .i64 0, .bool false, .bool false, .bool false, .bool false, .bool false, .bool false, .slice none 0 0] ∧ Below w.heap.size w wr) (fun i _ => 6 - (intOf i).toNat)
  case atStart =>
    refine ⟨.inl ⟨rfl, Blk.new' (by simp)⟩, (((Blk.new' rfl).alloc _).alloc _).alloc _, ((Blk.new' (by simp)).alloc _).alloc _, (Blk.new' (by simp)).alloc _, (((Below.refl w.heap.size w).alloc (Nat.le_refl _) _).alloc (by simp) _).alloc (by simp <;> omega) _ |>.alloc (by simp <;> omega) _⟩
  case round =>
  obtain ⟨hd, hgt, hks, hres, hb⟩ := hrel
  obtain ⟨x0, x1, x2, x3, x4, x5, x6, x7⟩ := hgt.c8
  obtain ⟨y0, y1, y2, y3, y4, y5⟩ := hks.c6
  rcases hd with ⟨rfl, hr⟩ | ⟨rfl, hr⟩ | ⟨rfl, hr⟩ | ⟨rfl, hr⟩ | ⟨rfl, hr⟩ | ⟨rfl, hr⟩ | ⟨rfl, hr⟩
  · cases b0
    all_goals
      obtain ⟨r0, r1, r2, r3, r4, r5, r6, r7⟩ := hr.c8
      have fr := hr.frozen 1
      go_wp2
      go_roundw
      case rel => exact ⟨.inr (.inl ⟨rfl, hr.set_ 1 _⟩), hgt.far (by simp <;> omega) _, hks.far (by simp <;> omega) _, hres.far (by simp <;> omega) _, hb.setCell (by simp <;> omega) _⟩
      case measure => simp [intOf]
  · cases b1
    all_goals
      obtain ⟨r0, r1, r2, r3, r4, r5, r6, r7⟩ := hr.c8
      have fr := hr.frozen 2
      go_wp2
      go_roundw
      case rel => exact ⟨.inr (.inr (.inl ⟨rfl, hr.set_ 2 _⟩)), hgt.far (by simp <;> omega) _, hks.far (by simp <;> omega) _, hres.far (by simp <;> omega) _, hb.setCell (by simp <;> omega) _⟩
      case measure => simp [intOf]
  · cases b2
    all_goals
      obtain ⟨r0, r1, r2, r3, r4, r5, r6, r7⟩ := hr.c8
      have fr := hr.frozen 3
      go_wp2
      go_roundw
      case rel => exact ⟨.inr (.inr (.inr (.inl ⟨rfl, hr.set_ 3 _⟩))), hgt.far (by simp <;> omega) _, hks.far (by simp <;> omega) _, hres.far (by simp <;> omega) _, hb.setCell (by simp <;> omega) _⟩
      case measure => simp [intOf]
  · cases b3
    all_goals
      obtain ⟨r0, r1, r2, r3, r4, r5, r6, r7⟩ := hr.c8
      have fr := hr.frozen 4
      go_wp2
      go_roundw
      case rel => exact ⟨.inr (.inr (.inr (.inr (.inl ⟨rfl, hr.set_ 4 _⟩)))), hgt.far (by simp <;> omega) _, hks.far (by simp <;> omega) _, hres.far (by simp <;> omega) _, hb.setCell (by simp <;> omega) _⟩
      case measure => simp [intOf]
  · cases b4
    all_goals
      obtain ⟨r0, r1, r2, r3, r4, r5, r6, r7⟩ := hr.c8
      have fr := hr.frozen 5
      go_wp2
      go_roundw
      case rel => exact ⟨.inr (.inr (.inr (.inr (.inr (.inl ⟨rfl, hr.set_ 5 _⟩))))), hgt.far (by simp <;> omega) _, hks.far (by simp <;> omega) _, hres.far (by simp <;> omega) _, hb.setCell (by simp <;> omega) _⟩
      case measure => simp [intOf]
  · cases b5
    all_goals
      obtain ⟨r0, r1, r2, r3, r4, r5, r6, r7⟩ := hr.c8
      have fr := hr.frozen 6
      go_wp2
      go_roundw
      case rel => exact ⟨.inr (.inr (.inr (.inr (.inr (.inr (⟨rfl, hr.set_ 6 _⟩)))))), hgt.far (by simp <;> omega) _, hks.far (by simp <;> omega) _, hres.far (by simp <;> omega) _, hb.setCell (by simp <;> omega) _⟩
      case measure => simp [intOf]
  · have hl3 := hr.lt
    obtain ⟨r0, r1, r2, r3, r4, r5, r6, r7⟩ := hr.c8
    go_wp2
    clear ix0 ix1 ix2 ix3 ix4 ix5
    obtain ⟨ws, hws⟩ : ∃ ws, ws = wr := ⟨_, rfl⟩
    subst hws
    go_loopw [35] (fun i wr => ∃ (k : Nat) (v : Value) (pre : List Ed), k ≤ n ∧ i = .int .i64 k ∧ Hid (brk [k0, k1, k2, k3, k4, k5] (es.take k) = pre) ∧ pre.length ≤ k ∧ wr.ownsRow (w.heap.size + 1 + 1 + 1 + 1) 143 3 v pre.length (pre.map Ed.row).flatten ∧ Blk wr (w.heap.size + 1 + 1 + 1) 51 #[.int .i64 per, .bool (b0 && !k0), .bool (b1 && !k1), .bool (b2 && !k2), .bool (b3 && !k3), .bool (b4 && !k4), .bool (b5 && !k5), v] ∧ Blk wr w.heap.size 51 #[.int .i64 per, .bool b0, .bool b1, .bool b2, .bool b3, .bool b4, .bool b5, .slice A n c] ∧ Blk wr (w.heap.size + 1) 48 #[.bool k0, .bool k1, .bool k2, .bool k3, .bool k4, .bool k5] ∧ Blk wr (w.heap.size + 1 + 1) 51 #[.int .i64 0, .bool false, .bool false, .bool false, .bool false, .bool false, .bool false, .slice none 0 0] ∧ Below w.heap.size w wr) (fun i _ => n - (intOf i).toNat)
    case atStart => exact ⟨0, _, [], Nat.zero_le _, rfl, rfl, Nat.le_refl _, World.ownsRow_nil _ _ _ _, hr, hgt, hks, hres, hb⟩
    case round =>
    clear hr hgt hks hres hb x0 x1 x2 x3 x4 x5 x6 x7 y0 y1 y2 y3 y4 y5 r0 r1 r2 r3 r4 r5 r6 r7 hl3
    obtain ⟨k, v, pre, hk, rfl, hpre, hpl, hown, hr, hgt, hks, hres, hb⟩ := hrel
    obtain ⟨A1, c1, rfl, _, _⟩ := Sl.of_own (rs := pre.map Ed.row) hown (by simp [Ed.row]) (by simp)
    obtain ⟨x0, x1, x2, x3, x4, x5, x6, x7⟩ := hgt.c8
    obtain ⟨r0, r1, r2, r3, r4, r5, r6, r7⟩ := hr.c8
    have hl3 := hr.lt
    have hl1 := hks.lt
    by_cases hlt : k < n
    · have hkl : k < es.length := by have := HN.out; omega
      obtain ⟨e, he⟩ : ∃ e, es[k]? = some e := ⟨_, List.getElem?_eq_getElem hkl⟩
      obtain ⟨ad, p, rfl, hpa, hpb, e0, e1, e2⟩ := (hE.below hb).three (k := k) (x := .int .i64 e.t) (y := .int .i64 e.s) (z := .bool e.o) (by rw [List.getElem?_map, he]; rfl)
      have hpb1 : p.block < wr.heap.size := by omega
      have HE := Lib.hid he
      clear he
      by_cases hkeep : keepE [k0, k1, k2, k3, k4, k5] e = true
      · have HK := Lib.hid hkeep
        have hpre' := brk_take_yes HE.out hkeep
        rw [hpre.out] at hpre'
        have HP := Lib.hid hpre'
        clear hpre' hkeep
        have hcase : e.s < 0 ∨ 5 < e.s ∨ (0 ≤ e.s ∧ e.s ≤ 5 ∧ wr.cell? ⟨w.heap.size + 1, e.s.toNat, none⟩ = some (.bool false)) := by
          have h3 := HK.out
          simp only [keepE, Bool.or_eq_true, decide_eq_true_eq, Bool.not_eq_true'] at h3
          by_cases h1 : e.s < 0
          · exact .inl h1
          by_cases h2 : 5 < e.s
          · exact .inr (.inl h2)
          obtain ⟨x, hx1, hx2⟩ := six_get k0 k1 k2 k3 k4 k5 e.s.toNat (by omega)
          rw [hx2] at h3
          rcases h3 with h3 | h3 | h3
          · omega
          · omega
          · subst h3
            exact .inr (.inr ⟨by omega, by omega, (hks.cell _).trans hx1⟩)
        rcases hcase with h1 | h1 | ⟨h1, h2, h3⟩
        · go_wp2_with (at_builtin; refine wpList_append_own _ rfl _ _ 49 rfl (w.heap.size + 1 + 1 + 1 + 1) 143 i0 _ 3 24 Tryz.underlying49 hi hz0 hz1 hz2 rfl (by decide) _ _ _ rfl ((hown.alloc _).alloc _) ⟨wr.heap.size + 1, 0, none⟩ 1 1 [.int .i64 e.t, .int .i64 e.s, .bool e.o] rfl rfl ?ca1 ?ca2 ?ca3 ?ca4 ?ca5 ?_)
          case ca1 => exact news_alloc _ [_, _, _] _ _ (by simp)
          case ca2 => intro u hu; simp at hu; rcases hu with h | h | h <;> subst h <;> rfl
          case ca3 => unfold maxLen; omega
          case ca4 => omega
          case ca5 => simp; omega
          intro v' w1 hown' hgrow _
          have hne : ∀ g, g < w.heap.size + 1 + 1 + 1 + 1 ∨ wr.heap.size ≤ g → some g ≠ (Value.slice A1 pre.length c1).ownBlock := fun g hg => own_ne hown hg
          obtain ⟨A2, c2, rfl, _, _⟩ := Sl.of_own (rs := (pre ++ [e]).map Ed.row) (n := pre.length + 1) (base := w.heap.size + 1 + 1 + 1 + 1) (e := 143) (by simpa [Ed.row, List.flatten_append] using hown') (fun r hr => by obtain ⟨x, _, rfl⟩ := List.mem_map.1 hr; rfl) (by simp)
          have hrx := ((hr.alloc (.cells #[.int .i64 e.t, .int .i64 e.s, .bool e.o] 143)).alloc (.cells #[.int .i64 e.t, .int .i64 e.s, .bool e.o] 143)).grown hgrow (hne _ (by omega))
          have hgtx := ((hgt.alloc (.cells #[.int .i64 e.t, .int .i64 e.s, .bool e.o] 143)).alloc (.cells #[.int .i64 e.t, .int .i64 e.s, .bool e.o] 143)).grown hgrow (hne _ (by omega))
          have hksx := ((hks.alloc (.cells #[.int .i64 e.t, .int .i64 e.s, .bool e.o] 143)).alloc (.cells #[.int .i64 e.t, .int .i64 e.s, .bool e.o] 143)).grown hgrow (hne _ (by omega))
          have hresx := ((hres.alloc (.cells #[.int .i64 e.t, .int .i64 e.s, .bool e.o] 143)).alloc (.cells #[.int .i64 e.t, .int .i64 e.s, .bool e.o] 143)).grown hgrow (hne _ (by omega))
          have hbx := ((hb.alloc (by omega) (.cells #[.int .i64 e.t, .int .i64 e.s, .bool e.o] 143)).alloc (by simp <;> omega) (.cells #[.int .i64 e.t, .int .i64 e.s, .bool e.o] 143)).grown hgrow (by simp <;> omega) (fun g hg => by have := own_ge hown g hg; omega)
          have fr := hrx.frozen 7
          obtain ⟨q0, q1, q2, q3, q4, q5, q6, q7⟩ := hrx.c8
          clear hgrow hown e0 e1 e2 r0 r1 r2 r3 r4 r5 r6 r7
          go_wp2
          go_roundw
          case rel =>
            refine ⟨k + 1, _, pre ++ [e], by omega, by go_num, HP.out, by simp; omega, ?_, hrx.set_ 7 _, hgtx.far (by simp <;> omega) _, hksx.far (by simp <;> omega) _, hresx.far (by simp <;> omega) _, hbx.setCell (by simp <;> omega) _⟩
            refine ownsRow_setCell_below ?_ (Nat.lt_succ_self _) _
            simpa [Ed.row, List.flatten_append] using hown'
          case measure => simp [intOf]; omega
        · go_wp2_with (at_builtin; refine wpList_append_own _ rfl _ _ 49 rfl (w.heap.size + 1 + 1 + 1 + 1) 143 i0 _ 3 24 Tryz.underlying49 hi hz0 hz1 hz2 rfl (by decide) _ _ _ rfl ((hown.alloc _).alloc _) ⟨wr.heap.size + 1, 0, none⟩ 1 1 [.int .i64 e.t, .int .i64 e.s, .bool e.o] rfl rfl ?cb1 ?cb2 ?cb3 ?cb4 ?cb5 ?_)
          case cb1 => exact news_alloc _ [_, _, _] _ _ (by simp)
          case cb2 => intro u hu; simp at hu; rcases hu with h | h | h <;> subst h <;> rfl
          case cb3 => unfold maxLen; omega
          case cb4 => omega
          case cb5 => simp; omega
          intro v' w1 hown' hgrow _
          have hne : ∀ g, g < w.heap.size + 1 + 1 + 1 + 1 ∨ wr.heap.size ≤ g → some g ≠ (Value.slice A1 pre.length c1).ownBlock := fun g hg => own_ne hown hg
          obtain ⟨A2, c2, rfl, _, _⟩ := Sl.of_own (rs := (pre ++ [e]).map Ed.row) (n := pre.length + 1) (base := w.heap.size + 1 + 1 + 1 + 1) (e := 143) (by simpa [Ed.row, List.flatten_append] using hown') (fun r hr => by obtain ⟨x, _, rfl⟩ := List.mem_map.1 hr; rfl) (by simp)
          have hrx := ((hr.alloc (.cells #[.int .i64 e.t, .int .i64 e.s, .bool e.o] 143)).alloc (.cells #[.int .i64 e.t, .int .i64 e.s, .bool e.o] 143)).grown hgrow (hne _ (by omega))
          have hgtx := ((hgt.alloc (.cells #[.int .i64 e.t, .int .i64 e.s, .bool e.o] 143)).alloc (.cells #[.int .i64 e.t, .int .i64 e.s, .bool e.o] 143)).grown hgrow (hne _ (by omega))
          have hksx := ((hks.alloc (.cells #[.int .i64 e.t, .int .i64 e.s, .bool e.o] 143)).alloc (.cells #[.int .i64 e.t, .int .i64 e.s, .bool e.o] 143)).grown hgrow (hne _ (by omega))
          have hresx := ((hres.alloc (.cells #[.int .i64 e.t, .int .i64 e.s, .bool e.o] 143)).alloc (.cells #[.int .i64 e.t, .int .i64 e.s, .bool e.o] 143)).grown hgrow (hne _ (by omega))
          have hbx := ((hb.alloc (by omega) (.cells #[.int .i64 e.t, .int .i64 e.s, .bool e.o] 143)).alloc (by simp <;> omega) (.cells #[.int .i64 e.t, .int .i64 e.s, .bool e.o] 143)).grown hgrow (by simp <;> omega) (fun g hg => by have := own_ge hown g hg; omega)
          have fr := hrx.frozen 7
          obtain ⟨q0, q1, q2, q3, q4, q5, q6, q7⟩ := hrx.c8
          clear hgrow hown e0 e1 e2 r0 r1 r2 r3 r4 r5 r6 r7
          go_wp2
          go_roundw
          case rel =>
            refine ⟨k + 1, _, pre ++ [e], by omega, by go_num, HP.out, by simp; omega, ?_, hrx.set_ 7 _, hgtx.far (by simp <;> omega) _, hksx.far (by simp <;> omega) _, hresx.far (by simp <;> omega) _, hbx.setCell (by simp <;> omega) _⟩
            refine ownsRow_setCell_below ?_ (Nat.lt_succ_self _) _
            simpa [Ed.row, List.flatten_append] using hown'
          case measure => simp [intOf]; omega
        · go_wp2_with (at_builtin; refine wpList_append_own _ rfl _ _ 49 rfl (w.heap.size + 1 + 1 + 1 + 1) 143 i0 _ 3 24 Tryz.underlying49 hi hz0 hz1 hz2 rfl (by decide) _ _ _ rfl ((hown.alloc _).alloc _) ⟨wr.heap.size + 1, 0, none⟩ 1 1 [.int .i64 e.t, .int .i64 e.s, .bool e.o] rfl rfl ?cc1 ?cc2 ?cc3 ?cc4 ?cc5 ?_)
          case cc1 => exact news_alloc _ [_, _, _] _ _ (by simp)
          case cc2 => intro u hu; simp at hu; rcases hu with h | h | h <;> subst h <;> rfl
          case cc3 => unfold maxLen; omega
          case cc4 => omega
          case cc5 => simp; omega
          intro v' w1 hown' hgrow _
          have hne : ∀ g, g < w.heap.size + 1 + 1 + 1 + 1 ∨ wr.heap.size ≤ g → some g ≠ (Value.slice A1 pre.length c1).ownBlock := fun g hg => own_ne hown hg
          obtain ⟨A2, c2, rfl, _, _⟩ := Sl.of_own (rs := (pre ++ [e]).map Ed.row) (n := pre.length + 1) (base := w.heap.size + 1 + 1 + 1 + 1) (e := 143) (by simpa [Ed.row, List.flatten_append] using hown') (fun r hr => by obtain ⟨x, _, rfl⟩ := List.mem_map.1 hr; rfl) (by simp)
          have hrx := ((hr.alloc (.cells #[.int .i64 e.t, .int .i64 e.s, .bool e.o] 143)).alloc (.cells #[.int .i64 e.t, .int .i64 e.s, .bool e.o] 143)).grown hgrow (hne _ (by omega))
          have hgtx := ((hgt.alloc (.cells #[.int .i64 e.t, .int .i64 e.s, .bool e.o] 143)).alloc (.cells #[.int .i64 e.t, .int .i64 e.s, .bool e.o] 143)).grown hgrow (hne _ (by omega))
          have hksx := ((hks.alloc (.cells #[.int .i64 e.t, .int .i64 e.s, .bool e.o] 143)).alloc (.cells #[.int .i64 e.t, .int .i64 e.s, .bool e.o] 143)).grown hgrow (hne _ (by omega))
          have hresx := ((hres.alloc (.cells #[.int .i64 e.t, .int .i64 e.s, .bool e.o] 143)).alloc (.cells #[.int .i64 e.t, .int .i64 e.s, .bool e.o] 143)).grown hgrow (hne _ (by omega))
          have hbx := ((hb.alloc (by omega) (.cells #[.int .i64 e.t, .int .i64 e.s, .bool e.o] 143)).alloc (by simp <;> omega) (.cells #[.int .i64 e.t, .int .i64 e.s, .bool e.o] 143)).grown hgrow (by simp <;> omega) (fun g hg => by have := own_ge hown g hg; omega)
          have fr := hrx.frozen 7
          obtain ⟨q0, q1, q2, q3, q4, q5, q6, q7⟩ := hrx.c8
          clear hgrow hown e0 e1 e2 r0 r1 r2 r3 r4 r5 r6 r7
          go_wp2
          go_roundw
          case rel =>
            refine ⟨k + 1, _, pre ++ [e], by omega, by go_num, HP.out, by simp; omega, ?_, hrx.set_ 7 _, hgtx.far (by simp <;> omega) _, hksx.far (by simp <;> omega) _, hresx.far (by simp <;> omega) _, hbx.setCell (by simp <;> omega) _⟩
            refine ownsRow_setCell_below ?_ (Nat.lt_succ_self _) _
            simpa [Ed.row, List.flatten_append] using hown'
          case measure => simp [intOf]; omega
      · have hkeep' : keepE [k0, k1, k2, k3, k4, k5] e = false := by simpa using hkeep
        have hpre' := brk_take_no HE.out hkeep'
        rw [hpre.out] at hpre'
        have HP := Lib.hid hpre'
        have h3 : 0 ≤ e.s ∧ e.s ≤ 5 ∧ [k0, k1, k2, k3, k4, k5].getD e.s.toNat false = true := by
          simp only [keepE, Bool.or_eq_false_iff, decide_eq_false_iff_not, Bool.not_eq_false'] at hkeep'
          exact ⟨by omega, by omega, hkeep'.2.2⟩
        clear hpre' hkeep hkeep'
        obtain ⟨h1, h2, h3⟩ := h3
        obtain ⟨x, hx1, hx2⟩ := six_get k0 k1 k2 k3 k4 k5 e.s.toNat (by omega)
        rw [hx2] at h3
        subst h3
        have hcx := (hks.cell _).trans hx1
        have hcy : (wr.alloc (.cells #[.int .i64 e.t, .int .i64 e.s, .bool e.o] 143)).cell? ⟨w.heap.size + 1, e.s.toNat, none⟩ = some (.bool true) := by rw [World.cell?_alloc_lt _ _ _ hl1]; exact hcx
        clear hx1 hx2
        go_wp2
        go_roundw
        case rel => exact ⟨k + 1, _, pre, by omega, by go_num, HP.out, by omega, hown.alloc _, hr.alloc _, hgt.alloc _, hks.alloc _, hres.alloc _, hb.alloc (by omega) _⟩
        case measure => simp [intOf]; omega
    · have hkn : k = n := by omega
      subst hkn
      have hfin := hpre.out
      rw [HN.out, List.take_length] at hfin
      have HF := Lib.hid hfin
      clear hfin hpre
      obtain ⟨z0, z1, z2, z3, z4, z5, z6, z7⟩ := hres.c8
      have fz0 := hres.frozen 0
      have fz1 := hres.frozen 1
      have fz2 := hres.frozen 2
      have fz3 := hres.frozen 3
      have fz4 := hres.frozen 4
      have fz5 := hres.frozen 5
      have fz6 := hres.frozen 6
      have fz7 := hres.frozen 7
      go_wp2
      refine bodyPost_ret (ret_cell rfl rfl (load_gates ((((((((hres.set_ 0 _).set_ 1 _).set_ 2 _).set_ 3 _).set_ 4 _).set_ 5 _).set_ 6 _).set_ 7 _))) rfl ?_
      have hsl := sl_set8 (rs := pre.map Ed.row) hown (by simp [Ed.row]) (by simp) (g := w.heap.size + 1 + 1) (by omega)
      refine ⟨_, _, _, rfl, ?_, ?_, ?_⟩
      · rw [HF.out]
      · rw [HF.out]; exact hsl _ _ _ _ _ _ _ _
      · exact ((((((((hb.setCell (by simp <;> omega) _).setCell (by simp <;> omega) _).setCell (by simp <;> omega) _).setCell (by simp <;> omega) _).setCell (by simp <;> omega) _).setCell (by simp <;> omega) _).setCell (by simp <;> omega) _).setCell (by simp <;> omega) _)

end Go.Proofs.YtpfkiohknpeifaaGreat.I
