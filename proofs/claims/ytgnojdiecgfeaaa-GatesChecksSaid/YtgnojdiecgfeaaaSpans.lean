/- The walk of the parts of a period. -/
import Derived.Test.YtgnojdiecgfeaaaBase
namespace Go.Proofs.Ytgnojdiecgfeaaa
open Go.RowKit

def spanRow (x : Int × List Bool) : List Value := .int .i64 x.1 :: x.2.map .bool

theorem Try.infoSpan : (Try.prog.info? 101).map (fun i => (i.zero, i.size, i.bytes)) = some (some (.agg #[.int .i64 0, .bool false, .bool false, .bool false, .bool false, .bool false, .bool false]), 7, 16) := by kernel_rfl

theorem six_set (c0 c1 c2 c3 c4 c5 o : Bool) (s : Nat) (hs : s < 6) : ∃ d0 d1 d2 d3 d4 d5 : Bool,
    (#[Value.bool c0, .bool c1, .bool c2, .bool c3, .bool c4, .bool c5]).setIfInBounds s (.bool o) = #[Value.bool d0, .bool d1, .bool d2, .bool d3, .bool d4, .bool d5] ∧
    [c0, c1, c2, c3, c4, c5].set s o = [d0, d1, d2, d3, d4, d5] ∧ ∃ x, (#[Value.bool c0, .bool c1, .bool c2, .bool c3, .bool c4, .bool c5])[s]? = some (.bool x) := by
  match s, hs with
  | 0, _ => exact ⟨o, c1, c2, c3, c4, c5, rfl, rfl, _, rfl⟩
  | 1, _ => exact ⟨c0, o, c2, c3, c4, c5, rfl, rfl, _, rfl⟩
  | 2, _ => exact ⟨c0, c1, o, c3, c4, c5, rfl, rfl, _, rfl⟩
  | 3, _ => exact ⟨c0, c1, c2, o, c4, c5, rfl, rfl, _, rfl⟩
  | 4, _ => exact ⟨c0, c1, c2, c3, o, c5, rfl, rfl, _, rfl⟩
  | 5, _ => exact ⟨c0, c1, c2, c3, c4, o, rfl, rfl, _, rfl⟩

set_option maxHeartbeats 800000 in
theorem spans_walk (per : Int) (b0 b1 b2 b3 b4 b5 : Bool) (A : Option Addr) (n c : Nat) (es : List Ed) (w : World) (hE : Sl w w.heap.size 3 A (es.map Ed.row)) (hn : n = es.length) (hm : n ≤ 1000000)
    (hv : Valid per es) (hp1 : 64 ≤ per) (hp2 : per ≤ 4096) :
    Calls Try.prog 58 #[.agg #[.int .i64 per, .bool b0, .bool b1, .bool b2, .bool b3, .bool b4, .bool b5, .slice A n c]] w fun e w' =>
      ∃ v, e = .returned v ∧ w'.ownsRow w.heap.size 101 7 v (spansOf per [b0, b1, b2, b3, b4, b5] es).length ((spansOf per [b0, b1, b2, b3, b4, b5] es).map spanRow).flatten ∧ Below w.heap.size w w' := by
  have HN := Lib.hid hn
  clear hn
  obtain ⟨i0, hi, hz0, hz1, hz2⟩ := info_parts Try.infoSpan
  go_enter Try.func58, Try.ntmps58
  go_wp2
  go_loopw [3, 5, 13] (fun v f i wr => ∃ (k : Nat) (t : Int) (c0 c1 c2 c3 c4 c5 : Bool) (pre : List (Int × List Bool)), k ≤ n ∧ i = .int .i64 k ∧ f = .int .i64 t ∧ 0 ≤ t ∧ t < per ∧
      Hid (∀ j e, k ≤ j → es[j]? = some e → t ≤ e.t) ∧ Hid (spansOf per [b0, b1, b2, b3, b4, b5] es = pre ++ spansF per (es.drop k) [c0, c1, c2, c3, c4, c5] t) ∧ pre.length ≤ k ∧
      wr.ownsRow (w.heap.size + 2) 101 7 v pre.length (pre.map spanRow).flatten ∧ Blk wr (w.heap.size + 1) 22 #[.bool c0, .bool c1, .bool c2, .bool c3, .bool c4, .bool c5] ∧
      wr.cell? ⟨w.heap.size, 0, none⟩ = some (.int .i64 per) ∧ Below w.heap.size w wr) (fun _ _ i _ => n - (intOf i).toNat)
  case atStart => exact ⟨0, 0, b0, b1, b2, b3, b4, b5, [], Nat.zero_le _, rfl, rfl, Int.le_refl _, by omega, fun j e _ he => by
      have h1 := (List.getElem?_eq_some_iff.1 he)
      obtain ⟨h1, rfl⟩ := h1
      exact (hv.ins j h1).1, rfl, Nat.le_refl _, World.ownsRow_nil _ _ _ _, Blk.new' (by simp), by simp, ((Below.refl _ _).alloc (Nat.le_refl _) _).alloc (by simp) _⟩
  case round =>
    obtain ⟨k, t, c0, c1, c2, c3, c4, c5, pre, hk, rfl, rfl, ht0, ht1, hlat, hpre, hpl, hown, hblk, h0, hb⟩ := hrel
    have hsz : w.heap.size + 1 < wr.heap.size := hblk.lt
    have k0 := hblk.cell 0
    have k1 := hblk.cell 1
    have k2 := hblk.cell 2
    have k3 := hblk.cell 3
    have k4 := hblk.cell 4
    have k5 := hblk.cell 5
    simp only [List.getElem?_toArray, List.getElem?_cons_zero, List.getElem?_cons_succ] at k0 k1 k2 k3 k4 k5
    by_cases hlt : k < n
    · have hkl : k < es.length := by have := HN.out; omega
      obtain ⟨e, he⟩ : ∃ e, es[k]? = some e := ⟨_, List.getElem?_eq_getElem hkl⟩
      obtain ⟨ad, p, rfl, hpa, hpb, e0, e1, e2⟩ := (hE.below hb).three (k := k) (x := .int .i64 e.t) (y := .int .i64 e.s) (z := .bool e.o) (by rw [List.getElem?_map, he]; rfl)
      have hpb1 : p.block < wr.heap.size := by omega
      obtain ⟨hin1, hin2, hin3, hin4⟩ : 0 ≤ e.t ∧ e.t < per ∧ 0 ≤ e.s ∧ e.s ≤ 5 := by
        have := hv.ins k hkl
        rw [List.getElem?_eq_getElem hkl] at he
        injection he with he
        rw [he] at this
        exact this
      have HE := Lib.hid he
      clear he
      obtain ⟨d0, d1, d2, d3, d4, d5, hs1, hs2, x, hx⟩ := six_set c0 c1 c2 c3 c4 c5 e.o e.s.toNat (by omega)
      have HS1 := Lib.hid hs1
      have HS2 := Lib.hid hs2
      clear hs1 hs2
      have hcx := hblk.cell e.s.toNat
      rw [hx] at hcx
      have hfx := hblk.frozen e.s.toNat
      clear hx
      by_cases hlt2 : t < e.t
      · go_wp2_with (at_builtin; refine wpList_append_own _ rfl _ _ 97 rfl (w.heap.size + 2) 101 i0 _ 7 16 Try.underlying97 hi hz0 hz1 hz2 rfl (by decide) _ _ _ rfl ((hown.alloc _).alloc _) ⟨wr.heap.size + 1, 0, none⟩ 1 1 [.int .i64 (e.t - t), .bool c0, .bool c1, .bool c2, .bool c3, .bool c4, .bool c5] rfl rfl ?c1 ?c2 ?c3 ?c4 ?c5 ?_)
        case c1 => exact news_alloc _ [_, _, _, _, _, _, _] _ _ (by simp)
        case c2 => intro u hu; simp at hu; rcases hu with h | h | h | h | h | h | h <;> subst h <;> rfl
        case c3 => unfold maxLen; omega
        case c4 => omega
        case c5 => simp; omega
        intro v' w1 hown' hgrow _
        have hne : ∀ g, g < w.heap.size + 2 ∨ wr.heap.size ≤ g → some g ≠ u3.ownBlock := fun g hg => own_ne hown hg
        have hblk1 := ((hblk.alloc (.cells #[.int .i64 e.t, .int .i64 e.s, .bool e.o] 37)).alloc (.cells #[.int .i64 (e.t - t), .bool c0, .bool c1, .bool c2, .bool c3, .bool c4, .bool c5] 101)).grown hgrow (hne _ (by omega))
        have hblk2 := ((Blk.new wr 37 #[.int .i64 e.t, .int .i64 e.s, .bool e.o]).alloc (.cells #[.int .i64 (e.t - t), .bool c0, .bool c1, .bool c2, .bool c3, .bool c4, .bool c5] 101)).grown hgrow (hne _ (by omega))
        have hb1 := ((hb.alloc (by omega) (.cells #[.int .i64 e.t, .int .i64 e.s, .bool e.o] 37)).alloc (by simp; omega) (.cells #[.int .i64 (e.t - t), .bool c0, .bool c1, .bool c2, .bool c3, .bool c4, .bool c5] 101)).grown hgrow (by simp; omega) (fun g hg => by have := own_ge hown g hg; omega)
        have f0 := hblk2.cell 0
        have f1 := hblk2.cell 1
        have f2 := hblk2.cell 2
        simp only [List.getElem?_toArray, List.getElem?_cons_zero, List.getElem?_cons_succ] at f0 f1 f2
        have hcx1 : w1.cell? ⟨w.heap.size + 1, e.s.toNat, none⟩ = some (.bool x) := by rw [hblk1.cell, ← hblk.cell]; exact hcx
        have hfx1 := hblk1.frozen e.s.toNat
        have hP1 : w1.cell? ⟨w.heap.size, 0, none⟩ = some (.int .i64 per) := by
          rw [hgrow.cell (v := .int .i64 per) (by rw [World.cell?_alloc_past _ _ _ (by simp; omega), World.cell?_alloc_past _ _ _ (by omega)]; exact h0) (hne w.heap.size (by omega))]
        have hsz1 : wr.heap.size + 2 ≤ w1.heap.size := by have := hgrow.size; simpa using this
        clear hgrow hown hcx hfx k0 k1 k2 k3 k4 k5 h0 e0 e1 e2
        go_wp2
        go_roundw
        case rel =>
          refine ⟨k + 1, e.t, d0, d1, d2, d3, d4, d5, pre ++ [(e.t - t, [c0, c1, c2, c3, c4, c5])], by omega, by go_num, rfl, hin1, hin2, hv.later HE.out, ?_, by simp; omega, ?_, ?_, ?_, hb1.setCell (Nat.le_succ _) _⟩
          · show _ = _
            rw [hpre.out, spansF_step HE.out, if_pos hlt2, ← HS2.out]
            simp [step]
          · refine ownsRow_setCell_below ?_ (Nat.lt_succ_self _) _
            simpa [spanRow, List.flatten_append] using hown'
          · rw [← HS1.out]; exact hblk1.set_ _ _
          · rw [World.cell?_setCell_other _ _ _ _ (by simp)]; exact hP1
        case measure => simp [intOf]; omega
      · go_wp2
        go_roundw
        case rel =>
          refine ⟨k + 1, t, d0, d1, d2, d3, d4, d5, pre, by omega, by go_num, rfl, ht0, ht1, fun j x hj hx => hlat.out j x (by omega) hx, ?_, by omega, ?_, ?_, ?_, (hb.setCell (Nat.le_succ _) _).alloc (by simp; omega) _⟩
          · show _ = _
            rw [hpre.out, spansF_step HE.out, if_neg hlt2, ← HS2.out]
            rfl
          · exact (ownsRow_setCell_below hown (Nat.lt_succ_self _) _).alloc _
          · rw [← HS1.out]; exact (hblk.set_ _ _).alloc _
          · rw [World.cell?_alloc_past _ _ _ (by simp; omega), World.cell?_setCell_other _ _ _ _ (by simp)]; exact h0
        case measure => simp [intOf]; omega
    · have hkn : es.length ≤ k := by have := HN.out; omega
      go_wp2_with (at_builtin; refine wpList_append_own _ rfl _ _ 97 rfl (w.heap.size + 2) 101 i0 _ 7 16 Try.underlying97 hi hz0 hz1 hz2 rfl (by decide) _ _ _ rfl (hown.alloc _) ⟨wr.heap.size, 0, none⟩ 1 1 [.int .i64 (per - t), .bool c0, .bool c1, .bool c2, .bool c3, .bool c4, .bool c5] rfl rfl ?e1 ?e2 ?e3 ?e4 ?e5 ?_)
      case e1 => exact news_alloc _ [_, _, _, _, _, _, _] _ _ rfl
      case e2 => intro u hu; simp at hu; rcases hu with h | h | h | h | h | h | h <;> subst h <;> rfl
      case e3 => unfold maxLen; omega
      case e4 => omega
      case e5 => simp; omega
      intro v' w1 hown' hgrow _
      have hb1 := (hb.alloc (by omega) (.cells #[.int .i64 (per - t), .bool c0, .bool c1, .bool c2, .bool c3, .bool c4, .bool c5] 101)).grown hgrow (by simp; omega) (fun g hg => by have := own_ge hown g hg; omega)
      have hfin : (spansOf per [b0, b1, b2, b3, b4, b5] es) = pre ++ [(per - t, [c0, c1, c2, c3, c4, c5])] := by
        rw [hpre.out, spansF_end hkn]
      have HF := Lib.hid hfin
      clear hfin hgrow
      go_wp2
      go_ret
      refine ⟨_, rfl, ?_, hb1⟩
      rw [HF.out]
      refine World.ownsRow.rebase (base := w.heap.size + 2) ?_ (by omega)
      simpa [spanRow, List.flatten_append] using hown'

end Go.Proofs.Ytgnojdiecgfeaaa
