/- The walk of the reference's Break. -/
import Derived.Test.YtpfkiohknpeifaaGreatBreak
import Derived.Deep.AppendLies
import Derived.Deep.RegionLaw
namespace Go.Proofs.YtpfkiohknpeifaaGreat.I
open Go.RowKit

set_option maxRecDepth 100000 in
set_option maxHeartbeats 1600000 in
theorem rbreak_walk (per : Int) (b0 b1 b2 b3 b4 b5 k0 k1 k2 k3 k4 k5 : Bool) (A : Option Addr) (n c : Nat) (es : List Ed) (w : World) (hE : Sl w w.heap.size 3 A (es.map Ed.row)) (hn : n = es.length) (hm : n ≤ 1000000) :
    Calls Tryz.prog 50 #[.agg #[.int .i64 per, .bool b0, .bool b1, .bool b2, .bool b3, .bool b4, .bool b5, .slice A n c], .agg #[.bool k0, .bool k1, .bool k2, .bool k3, .bool k4, .bool k5]] w fun e w' => ∃ A' n' c',
      e = .returned (.agg #[.int .i64 per, .bool (b0 && !k0), .bool (b1 && !k1), .bool (b2 && !k2), .bool (b3 && !k3), .bool (b4 && !k4), .bool (b5 && !k5), .slice A' n' c']) ∧ n' = (brk [k0, k1, k2, k3, k4, k5] es).length ∧ Sl w' w'.heap.size 3 A' ((brk [k0, k1, k2, k3, k4, k5] es).map Ed.row) ∧ Below w.heap.size w w' := by
  have HN := Lib.hid hn
  clear hn
  obtain ⟨i0, hi, hz0, hz1, hz2⟩ := info_parts Tryz.infoEdge
  go_enter Tryz.func50, Tryz.ntmps50
  go_wp2
  go_loopw [6] (fun i wr => ((i = .int .i64 0 ∧ Blk wr (w.heap.size + 1 + 1 + 1) 51 #[.int .i64 per, .bool false, .bool false, .bool false, .bool false, .bool false, .bool false, .slice none 0 0]) ∨ (i = .int .i64 1 ∧ Blk wr (w.heap.size + 1 + 1 + 1) 51 #[.int .i64 per, .bool (b0 && !k0), .bool false, .bool false, .bool false, .bool false, .bool false, .slice none 0 0]) ∨ (i = .int .i64 2 ∧ Blk wr (w.heap.size + 1 + 1 + 1) 51 #[.int .i64 per, .bool (b0 && !k0), .bool (b1 && !k1), .bool false, .bool false, .bool false, .bool false, .slice none 0 0]) ∨ (i = .int .i64 3 ∧ Blk wr (w.heap.size + 1 + 1 + 1) 51 #[.int .i64 per, .bool (b0 && !k0), .bool (b1 && !k1), .bool (b2 && !k2), .bool false, .bool false, .bool false, .slice none 0 0]) ∨ (i = .int .i64 4 ∧ Blk wr (w.heap.size + 1 + 1 + 1) 51 #[.int .i64 per, .bool (b0 && !k0), .bool (b1 && !k1), .bool (b2 && !k2), .bool (b3 && !k3), .bool false, .bool false, .slice none 0 0]) ∨ (i = .int .i64 5 ∧ Blk wr (w.heap.size + 1 + 1 + 1) 51 #[.int .i64 per, .bool (b0 && !k0), .bool (b1 && !k1), .bool (b2 && !k2), .bool (b3 && !k3), .bool (b4 && !k4), .bool false, .slice none 0 0]) ∨ (i = .int .i64 6 ∧ Blk wr (w.heap.size + 1 + 1 + 1) 51 #[.int .i64 per, .bool (b0 && !k0), .bool (b1 && !k1), .bool (b2 && !k2), .bool (b3 && !k3), .bool (b4 && !k4), .bool (b5 && !k5), .slice none 0 0])) ∧ Blk wr w.heap.size 51 #[.int .i64 per, .bool b0, .bool b1, .bool b2, .bool b3, .bool b4, .bool b5, .slice A n c] ∧ Blk wr (w.heap.size + 1) 48 #[.bool k0, .bool k1, .bool k2, .bool k3, .bool k4, .bool k5] ∧ Blk wr (w.heap.size + 1 + 1) 51 #[.int .i64 0, .bool false, .bool false, .bool false, .bool false, .bool false, .bool false, .slice none 0 0] ∧ Below w.heap.size w wr) (fun i _ => 6 - (intOf i).toNat)
  case atStart =>
    refine ⟨.inl ⟨rfl, Blk.new' (by simp)⟩, (((Blk.new' rfl).alloc _).alloc _).alloc _, ((Blk.new' (by simp)).alloc _).alloc _, (Blk.new' (by simp)).alloc _, (((Below.refl w.heap.size w).alloc (Nat.le_refl _) _).alloc (by simp) _).alloc (by simp <;> omega) _ |>.alloc (by simp <;> omega) _⟩
  case round =>
  obtain ⟨hd, hgt, hks, hres, hb⟩ := hrel
  obtain ⟨x0, x1, x2, x3, x4, x5, x6, x7⟩ := hgt.c8
  obtain ⟨y0, y1, y2, y3, y4, y5⟩ := hks.c6
  rcases hd with ⟨rfl, hr⟩ | ⟨rfl, hr⟩ | ⟨rfl, hr⟩ | ⟨rfl, hr⟩ | ⟨rfl, hr⟩ | ⟨rfl, hr⟩ | ⟨rfl, hr⟩
  · cases b0
    all_goals
      obtain ⟨r0, r1, r2, r3, r4, r5, r6, r7⟩ := hr.c8
      have fr := hr.frozen 1
      go_wp2
      go_roundw
      case rel => exact ⟨.inr (.inl ⟨rfl, hr.set_ 1 _⟩), hgt.far (by simp <;> omega) _, hks.far (by simp <;> omega) _, hres.far (by simp <;> omega) _, hb.setCell (by simp <;> omega) _⟩
      case measure => simp [intOf]
  · cases b1
    all_goals
      obtain ⟨r0, r1, r2, r3, r4, r5, r6, r7⟩ := hr.c8
      have fr := hr.frozen 2
      go_wp2
      go_roundw
      case rel => exact ⟨.inr (.inr (.inl ⟨rfl, hr.set_ 2 _⟩)), hgt.far (by simp <;> omega) _, hks.far (by simp <;> omega) _, hres.far (by simp <;> omega) _, hb.setCell (by simp <;> omega) _⟩
      case measure => simp [intOf]
  · cases b2
    all_goals
      obtain ⟨r0, r1, r2, r3, r4, r5, r6, r7⟩ := hr.c8
      have fr := hr.frozen 3
      go_wp2
      go_roundw
      case rel => exact ⟨.inr (.inr (.inr (.inl ⟨rfl, hr.set_ 3 _⟩))), hgt.far (by simp <;> omega) _, hks.far (by simp <;> omega) _, hres.far (by simp <;> omega) _, hb.setCell (by simp <;> omega) _⟩
      case measure => simp [intOf]
  · cases b3
    all_goals
      obtain ⟨r0, r1, r2, r3, r4, r5, r6, r7⟩ := hr.c8
      have fr := hr.frozen 4
      go_wp2
      go_roundw
      case rel => exact ⟨.inr (.inr (.inr (.inr (.inl ⟨rfl, hr.set_ 4 _⟩)))), hgt.far (by simp <;> omega) _, hks.far (by simp <;> omega) _, hres.far (by simp <;> omega) _, hb.setCell (by simp <;> omega) _⟩
      case measure => simp [intOf]
  · cases b4
    all_goals
      obtain ⟨r0, r1, r2, r3, r4, r5, r6, r7⟩ := hr.c8
      have fr := hr.frozen 5
      go_wp2
      go_roundw
      case rel => exact ⟨.inr (.inr (.inr (.inr (.inr (.inl ⟨rfl, hr.set_ 5 _⟩))))), hgt.far (by simp <;> omega) _, hks.far (by simp <;> omega) _, hres.far (by simp <;> omega) _, hb.setCell (by simp <;> omega) _⟩
      case measure => simp [intOf]
  · cases b5
    all_goals
      obtain ⟨r0, r1, r2, r3, r4, r5, r6, r7⟩ := hr.c8
      have fr := hr.frozen 6
      go_wp2
      go_roundw
      case rel => exact ⟨.inr (.inr (.inr (.inr (.inr (.inr (⟨rfl, hr.set_ 6 _⟩)))))), hgt.far (by simp <;> omega) _, hks.far (by simp <;> omega) _, hres.far (by simp <;> omega) _, hb.setCell (by simp <;> omega) _⟩
      case measure => simp [intOf]
  · have hl3 := hr.lt
    obtain ⟨r0, r1, r2, r3, r4, r5, r6, r7⟩ := hr.c8
    go_wp2
    go_loopw [7] (fun i wr => ∃ (k : Nat) (v : Value) (pre : List Ed), k ≤ n ∧ i = .int .i64 k ∧ Hid (brk [k0, k1, k2, k3, k4, k5] (es.take k) = pre) ∧ pre.length ≤ k ∧ wr.ownsRow (w.heap.size + 1 + 1 + 1 + 1) 143 3 v pre.length (pre.map Ed.row).flatten ∧ Blk wr (w.heap.size + 1 + 1 + 1) 51 #[.int .i64 per, .bool (b0 && !k0), .bool (b1 && !k1), .bool (b2 && !k2), .bool (b3 && !k3), .bool (b4 && !k4), .bool (b5 && !k5), v] ∧ Blk wr w.heap.size 51 #[.int .i64 per, .bool b0, .bool b1, .bool b2, .bool b3, .bool b4, .bool b5, .slice A n c] ∧ Blk wr (w.heap.size + 1) 48 #[.bool k0, .bool k1, .bool k2, .bool k3, .bool k4, .bool k5] ∧ Blk wr (w.heap.size + 1 + 1) 51 #[.int .i64 0, .bool false, .bool false, .bool false, .bool false, .bool false, .bool false, .slice none 0 0] ∧ Below w.heap.size w wr) (fun i _ => n - (intOf i).toNat)
    case atStart => exact ⟨0, _, [], Nat.zero_le _, rfl, rfl, Nat.le_refl _, World.ownsRow_nil _ _ _ _, hr, hgt, hks, hres, hb⟩
    case round =>
    clear hr hgt hks hres hb x0 x1 x2 x3 x4 x5 x6 x7 y0 y1 y2 y3 y4 y5 r0 r1 r2 r3 r4 r5 r6 r7 hl3
    obtain ⟨k, v, pre, hk, rfl, hpre, hpl, hown, hr, hgt, hks, hres, hb⟩ := hrel
    obtain ⟨A1, c1, rfl, _, _⟩ := Sl.of_own (rs := pre.map Ed.row) hown (by simp [Ed.row]) (by simp)
    obtain ⟨x0, x1, x2, x3, x4, x5, x6, x7⟩ := hgt.c8
    obtain ⟨r0, r1, r2, r3, r4, r5, r6, r7⟩ := hr.c8
    have hl3 := hr.lt
    have hl1 := hks.lt
    by_cases hlt : k < n
    · have hkl : k < es.length := by have := HN.out; omega
      obtain ⟨e, he⟩ : ∃ e, es[k]? = some e := ⟨_, List.getElem?_eq_getElem hkl⟩
      obtain ⟨ad, p, rfl, hpa, hpb, e0, e1, e2⟩ := (hE.below hb).three (k := k) (x := .int .i64 e.t) (y := .int .i64 e.s) (z := .bool e.o) (by rw [List.getElem?_map, he]; rfl)
      have hpb1 : p.block < wr.heap.size := by omega
      have HE := Lib.hid he
      clear he
      by_cases hkeep : keepE [k0, k1, k2, k3, k4, k5] e = true
      · have HK := Lib.hid hkeep
        have hpre' := brk_take_yes HE.out hkeep
        rw [hpre.out] at hpre'
        have HP := Lib.hid hpre'
        clear hpre' hkeep
        have hcase : e.s < 0 ∨ 5 < e.s ∨ (0 ≤ e.s ∧ e.s ≤ 5 ∧ wr.cell? ⟨w.heap.size + 1, e.s.toNat, none⟩ = some (.bool false)) := by
          have h3 := HK.out
          simp only [keepE, Bool.or_eq_true, decide_eq_true_eq, Bool.not_eq_true'] at h3
          by_cases h1 : e.s < 0
          · exact .inl h1
          by_cases h2 : 5 < e.s
          · exact .inr (.inl h2)
          obtain ⟨x, hx1, hx2⟩ := six_get k0 k1 k2 k3 k4 k5 e.s.toNat (by omega)
          rw [hx2] at h3
          rcases h3 with h3 | h3 | h3
          · omega
          · omega
          · subst h3
            exact .inr (.inr ⟨by omega, by omega, (hks.cell _).trans hx1⟩)
        rcases hcase with h1 | h1 | ⟨h1, h2, h3⟩
        · have hones : ∀ u ∈ [Value.int .i64 e.t, .int .i64 e.s, .bool e.o], u.oneCell' = true := by
            intro u hu; simp at hu; rcases hu with h | h | h <;> subst h <;> rfl
          have h63 : pre.length + 1 ≤ maxLen := by unfold maxLen; omega
          have hby : (pre.length + 1) * 24 ≤ 140737488355328 := by omega
          have hownd : wr.drew.ownsRow (w.heap.size + 1 + 1 + 1 + 1) 143 3 (.slice A1 pre.length c1) pre.length (pre.map Ed.row).flatten := hown
          have hne : ∀ g, g < w.heap.size + 1 + 1 + 1 + 1 ∨ wr.heap.size ≤ g → some g ≠ (Value.slice A1 pre.length c1).ownBlock := fun g hg => own_ne hown hg
          have hbase : w.heap.size + 1 + 1 + 1 + 1 ≤ (wr.drew.alloc (.cells #[.int .i64 e.t, .int .i64 e.s, .bool e.o] 143)).heap.size := by simp; omega
          have hge := own_ge hown
          go_wp2
          go_region_law ((refine step_append_lies _ (by rfl) _ _ _ (by rfl) (w.heap.size + 1 + 1 + 1 + 1) 143 i0 _ 3 24 Tryz.underlying49 hi hz0 hz1 hz2 (by rfl) (by decide) _ _ _ (by rfl) (hownd.alloc _) ⟨wr.heap.size, 0, none⟩ 1 1 [.int .i64 e.t, .int .i64 e.s, .bool e.o] (by rfl) (by rfl) (news_alloc _ [_, _, _] _ _ (by simp)) hones (by decide) h63 hby hbase (wr.heap.size + 1) (by simp) ?_; intro g cap w1 hown' hgrow hat hlt1; have hrx := ((hr.drew).alloc (.cells #[.int .i64 e.t, .int .i64 e.s, .bool e.o] 143)).grown hgrow (hne _ (by omega)); have fr := hrx.frozen 7; have q7 := hrx.c8.2.2.2.2.2.2.2))
          all_goals
            go_wp2
            go_roundw
            case rel =>
              have hgtx := ((hgt.drew).alloc (.cells #[.int .i64 e.t, .int .i64 e.s, .bool e.o] 143)).grown hgrow (hne _ (by omega))
              have hksx := ((hks.drew).alloc (.cells #[.int .i64 e.t, .int .i64 e.s, .bool e.o] 143)).grown hgrow (hne _ (by omega))
              have hresx := ((hres.drew).alloc (.cells #[.int .i64 e.t, .int .i64 e.s, .bool e.o] 143)).grown hgrow (hne _ (by omega))
              have hbx := (hb.drew.alloc (by simp <;> omega) (.cells #[.int .i64 e.t, .int .i64 e.s, .bool e.o] 143)).grown hgrow (by simp <;> omega) (fun g hg => by have := hge g hg; omega)
              refine ⟨k + 1, _, pre ++ [e], by omega, by go_num, HP.out, by simp; omega, ?_, hrx.set_ 7 _, hgtx.far (by simp <;> omega) _, hksx.far (by simp <;> omega) _, hresx.far (by simp <;> omega) _, hbx.setCell (by simp <;> omega) _⟩
              refine ownsRow_setCell_below ?_ (Nat.lt_succ_self _) _
              simpa [Ed.row, List.flatten_append] using hown'
            case measure => simp [intOf]; omega
        · have hones : ∀ u ∈ [Value.int .i64 e.t, .int .i64 e.s, .bool e.o], u.oneCell' = true := by
            intro u hu; simp at hu; rcases hu with h | h | h <;> subst h <;> rfl
          have h63 : pre.length + 1 ≤ maxLen := by unfold maxLen; omega
          have hby : (pre.length + 1) * 24 ≤ 140737488355328 := by omega
          have hownd : wr.drew.ownsRow (w.heap.size + 1 + 1 + 1 + 1) 143 3 (.slice A1 pre.length c1) pre.length (pre.map Ed.row).flatten := hown
          have hne : ∀ g, g < w.heap.size + 1 + 1 + 1 + 1 ∨ wr.heap.size ≤ g → some g ≠ (Value.slice A1 pre.length c1).ownBlock := fun g hg => own_ne hown hg
          have hbase : w.heap.size + 1 + 1 + 1 + 1 ≤ (wr.drew.alloc (.cells #[.int .i64 e.t, .int .i64 e.s, .bool e.o] 143)).heap.size := by simp; omega
          have hge := own_ge hown
          go_wp2
          go_region_law ((refine step_append_lies _ (by rfl) _ _ _ (by rfl) (w.heap.size + 1 + 1 + 1 + 1) 143 i0 _ 3 24 Tryz.underlying49 hi hz0 hz1 hz2 (by rfl) (by decide) _ _ _ (by rfl) (hownd.alloc _) ⟨wr.heap.size, 0, none⟩ 1 1 [.int .i64 e.t, .int .i64 e.s, .bool e.o] (by rfl) (by rfl) (news_alloc _ [_, _, _] _ _ (by simp)) hones (by decide) h63 hby hbase (wr.heap.size + 1) (by simp) ?_; intro g cap w1 hown' hgrow hat hlt1; have hrx := ((hr.drew).alloc (.cells #[.int .i64 e.t, .int .i64 e.s, .bool e.o] 143)).grown hgrow (hne _ (by omega)); have fr := hrx.frozen 7; have q7 := hrx.c8.2.2.2.2.2.2.2))
          all_goals
            go_wp2
            go_roundw
            case rel =>
              have hgtx := ((hgt.drew).alloc (.cells #[.int .i64 e.t, .int .i64 e.s, .bool e.o] 143)).grown hgrow (hne _ (by omega))
              have hksx := ((hks.drew).alloc (.cells #[.int .i64 e.t, .int .i64 e.s, .bool e.o] 143)).grown hgrow (hne _ (by omega))
              have hresx := ((hres.drew).alloc (.cells #[.int .i64 e.t, .int .i64 e.s, .bool e.o] 143)).grown hgrow (hne _ (by omega))
              have hbx := (hb.drew.alloc (by simp <;> omega) (.cells #[.int .i64 e.t, .int .i64 e.s, .bool e.o] 143)).grown hgrow (by simp <;> omega) (fun g hg => by have := hge g hg; omega)
              refine ⟨k + 1, _, pre ++ [e], by omega, by go_num, HP.out, by simp; omega, ?_, hrx.set_ 7 _, hgtx.far (by simp <;> omega) _, hksx.far (by simp <;> omega) _, hresx.far (by simp <;> omega) _, hbx.setCell (by simp <;> omega) _⟩
              refine ownsRow_setCell_below ?_ (Nat.lt_succ_self _) _
              simpa [Ed.row, List.flatten_append] using hown'
            case measure => simp [intOf]; omega
        · have hones : ∀ u ∈ [Value.int .i64 e.t, .int .i64 e.s, .bool e.o], u.oneCell' = true := by
            intro u hu; simp at hu; rcases hu with h | h | h <;> subst h <;> rfl
          have h63 : pre.length + 1 ≤ maxLen := by unfold maxLen; omega
          have hby : (pre.length + 1) * 24 ≤ 140737488355328 := by omega
          have hownd : wr.drew.ownsRow (w.heap.size + 1 + 1 + 1 + 1) 143 3 (.slice A1 pre.length c1) pre.length (pre.map Ed.row).flatten := hown
          have hne : ∀ g, g < w.heap.size + 1 + 1 + 1 + 1 ∨ wr.heap.size ≤ g → some g ≠ (Value.slice A1 pre.length c1).ownBlock := fun g hg => own_ne hown hg
          have hbase : w.heap.size + 1 + 1 + 1 + 1 ≤ (wr.drew.alloc (.cells #[.int .i64 e.t, .int .i64 e.s, .bool e.o] 143)).heap.size := by simp; omega
          have hge := own_ge hown
          go_wp2
          go_region_law ((refine step_append_lies _ (by rfl) _ _ _ (by rfl) (w.heap.size + 1 + 1 + 1 + 1) 143 i0 _ 3 24 Tryz.underlying49 hi hz0 hz1 hz2 (by rfl) (by decide) _ _ _ (by rfl) (hownd.alloc _) ⟨wr.heap.size, 0, none⟩ 1 1 [.int .i64 e.t, .int .i64 e.s, .bool e.o] (by rfl) (by rfl) (news_alloc _ [_, _, _] _ _ (by simp)) hones (by decide) h63 hby hbase (wr.heap.size + 1) (by simp) ?_; intro g cap w1 hown' hgrow hat hlt1; have hrx := ((hr.drew).alloc (.cells #[.int .i64 e.t, .int .i64 e.s, .bool e.o] 143)).grown hgrow (hne _ (by omega)); have fr := hrx.frozen 7; have q7 := hrx.c8.2.2.2.2.2.2.2))
          all_goals
            go_wp2
            go_roundw
            case rel =>
              have hgtx := ((hgt.drew).alloc (.cells #[.int .i64 e.t, .int .i64 e.s, .bool e.o] 143)).grown hgrow (hne _ (by omega))
              have hksx := ((hks.drew).alloc (.cells #[.int .i64 e.t, .int .i64 e.s, .bool e.o] 143)).grown hgrow (hne _ (by omega))
              have hresx := ((hres.drew).alloc (.cells #[.int .i64 e.t, .int .i64 e.s, .bool e.o] 143)).grown hgrow (hne _ (by omega))
              have hbx := (hb.drew.alloc (by simp <;> omega) (.cells #[.int .i64 e.t, .int .i64 e.s, .bool e.o] 143)).grown hgrow (by simp <;> omega) (fun g hg => by have := hge g hg; omega)
              refine ⟨k + 1, _, pre ++ [e], by omega, by go_num, HP.out, by simp; omega, ?_, hrx.set_ 7 _, hgtx.far (by simp <;> omega) _, hksx.far (by simp <;> omega) _, hresx.far (by simp <;> omega) _, hbx.setCell (by simp <;> omega) _⟩
              refine ownsRow_setCell_below ?_ (Nat.lt_succ_self _) _
              simpa [Ed.row, List.flatten_append] using hown'
            case measure => simp [intOf]; omega
      · have hkeep' : keepE [k0, k1, k2, k3, k4, k5] e = false := by simpa using hkeep
        have hpre' := brk_take_no HE.out hkeep'
        rw [hpre.out] at hpre'
        have HP := Lib.hid hpre'
        have h3 : 0 ≤ e.s ∧ e.s ≤ 5 ∧ [k0, k1, k2, k3, k4, k5].getD e.s.toNat false = true := by
          simp only [keepE, Bool.or_eq_false_iff, decide_eq_false_iff_not, Bool.not_eq_false'] at hkeep'
          exact ⟨by omega, by omega, hkeep'.2.2⟩
        clear hpre' hkeep hkeep'
        obtain ⟨h1, h2, h3⟩ := h3
        obtain ⟨x, hx1, hx2⟩ := six_get k0 k1 k2 k3 k4 k5 e.s.toNat (by omega)
        rw [hx2] at h3
        subst h3
        have hcx := (hks.cell _).trans hx1
        clear hx1 hx2
        go_wp2
        go_roundw
        case rel => exact ⟨k + 1, _, pre, by omega, by go_num, HP.out, by omega, hown, hr, hgt, hks, hres, hb⟩
        case measure => simp [intOf]; omega
    · have hkn : k = n := by omega
      subst hkn
      have hfin := hpre.out
      rw [HN.out, List.take_length] at hfin
      have HF := Lib.hid hfin
      clear hfin hpre
      obtain ⟨z0, z1, z2, z3, z4, z5, z6, z7⟩ := hres.c8
      have fz0 := hres.frozen 0
      have fz1 := hres.frozen 1
      have fz2 := hres.frozen 2
      have fz3 := hres.frozen 3
      have fz4 := hres.frozen 4
      have fz5 := hres.frozen 5
      have fz6 := hres.frozen 6
      have fz7 := hres.frozen 7
      go_wp2
      refine bodyPost_ret (ret_cell rfl rfl (load_gates ((((((((hres.set_ 0 _).set_ 1 _).set_ 2 _).set_ 3 _).set_ 4 _).set_ 5 _).set_ 6 _).set_ 7 _))) rfl ?_
      have hsl := sl_set8 (rs := pre.map Ed.row) hown (by simp [Ed.row]) (by simp) (g := w.heap.size + 1 + 1) (by omega)
      refine ⟨_, _, _, rfl, ?_, ?_, ?_⟩
      · rw [HF.out]
      · rw [HF.out]; exact hsl _ _ _ _ _ _ _ _
      · exact ((((((((hb.setCell (by simp <;> omega) _).setCell (by simp <;> omega) _).setCell (by simp <;> omega) _).setCell (by simp <;> omega) _).setCell (by simp <;> omega) _).setCell (by simp <;> omega) _).setCell (by simp <;> omega) _).setCell (by simp <;> omega) _)

end Go.Proofs.YtpfkiohknpeifaaGreat.I
