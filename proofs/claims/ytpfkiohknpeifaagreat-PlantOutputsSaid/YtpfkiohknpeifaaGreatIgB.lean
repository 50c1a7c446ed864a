/- Common words of the walks: the value of an error, of an edge. The walk of the parts of a period. The walk of 'shorted': some part has a shorted leg. The walk of the reference's 'At': the states of the switches at every count. The walks of the small functions: clips, the number of an error. Results that lie in memory; loads of whole arrays and structs out of a known block. The walks of layer 19's Forward and of the reference's. -/
import Derived.Test.YtpfkiohknpeifaaGreatRows
import Derived.Test.YtpfkiohknpeifaaGreatWords
import Derived.Test.YtpfkiohknpeifaaGreatIgA
import Derived.RegionTactic
import Derived.ChangeAlike
namespace Go.Proofs.YtpfkiohknpeifaaGreat.I
open Go.RowKit

/-- An error's value: nil for 0. -/
def errV (n : Int) : Value := if n = 0 then .nilIface else .iface 87 (.int .i64 n)
theorem errV_zero : errV 0 = .nilIface := rfl
theorem errV_ne {n : Int} (h : n ≠ 0) : errV n = .iface 87 (.int .i64 n) := if_neg h
def Ed.row (e : Ed) : List Value := [.int .i64 e.t, .int .i64 e.s, .bool e.o]
/-- The value of gate signals. -/
def gv (per : Int) (b0 b1 b2 b3 b4 b5 : Bool) (A : Option Addr) (n c : Nat) : Value :=
  .agg #[.int .i64 per, .bool b0, .bool b1, .bool b2, .bool b3, .bool b4, .bool b5, .slice A n c]


end Go.Proofs.YtpfkiohknpeifaaGreat.I

namespace Go.Proofs.YtpfkiohknpeifaaGreat.I
open Go.RowKit

def spanRow (x : Int × List Bool) : List Value := .int .i64 x.1 :: x.2.map .bool

theorem Tryz.infoSpan : (Tryz.prog.info? 172).map (fun i => (i.zero, i.size, i.bytes)) = some (some (.agg #[.int .i64 0, .bool false, .bool false, .bool false, .bool false, .bool false, .bool false]), 7, 16) := by kernel_rfl

theorem six_set (c0 c1 c2 c3 c4 c5 o : Bool) (s : Nat) (hs : s < 6) : ∃ d0 d1 d2 d3 d4 d5 : Bool,
    (#[Value.bool c0, .bool c1, .bool c2, .bool c3, .bool c4, .bool c5]).setIfInBounds s (.bool o) = #[Value.bool d0, .bool d1, .bool d2, .bool d3, .bool d4, .bool d5] ∧
    [c0, c1, c2, c3, c4, c5].set s o = [d0, d1, d2, d3, d4, d5] ∧ ∃ x, (#[Value.bool c0, .bool c1, .bool c2, .bool c3, .bool c4, .bool c5])[s]? = some (.bool x) := by
  match s, hs with
  | 0, _ => exact ⟨o, c1, c2, c3, c4, c5, rfl, rfl, _, rfl⟩
  | 1, _ => exact ⟨c0, o, c2, c3, c4, c5, rfl, rfl, _, rfl⟩
  | 2, _ => exact ⟨c0, c1, o, c3, c4, c5, rfl, rfl, _, rfl⟩
  | 3, _ => exact ⟨c0, c1, c2, o, c4, c5, rfl, rfl, _, rfl⟩
  | 4, _ => exact ⟨c0, c1, c2, c3, o, c5, rfl, rfl, _, rfl⟩
  | 5, _ => exact ⟨c0, c1, c2, c3, c4, o, rfl, rfl, _, rfl⟩

set_option maxHeartbeats 800000 in
theorem spans_walk (per : Int) (b0 b1 b2 b3 b4 b5 : Bool) (A : Option Addr) (n c : Nat) (es : List Ed) (w : World) (hE : Sl w w.heap.size 3 A (es.map Ed.row)) (hn : n = es.length) (hm : n ≤ 1000000)
    (hv : Valid per es) (hp1 : 64 ≤ per) (hp2 : per ≤ 4096) :
    Calls Tryz.prog 84 #[.agg #[.int .i64 per, .bool b0, .bool b1, .bool b2, .bool b3, .bool b4, .bool b5, .slice A n c]] w fun e w' =>
      ∃ v, e = .returned v ∧ w'.ownsRow w.heap.size 172 7 v (spansOf per [b0, b1, b2, b3, b4, b5] es).length ((spansOf per [b0, b1, b2, b3, b4, b5] es).map spanRow).flatten ∧ Below w.heap.size w w' := by
  have HN := Lib.hid hn
  clear hn
  obtain ⟨i0, hi, hz0, hz1, hz2⟩ := info_parts Tryz.infoSpan
  go_enter Tryz.func84, Tryz.ntmps84
  go_wp2
  go_loopw [3, 5, 13] (fun v f i wr => ∃ (k : Nat) (t : Int) (c0 c1 c2 c3 c4 c5 : Bool) (pre : List (Int × List Bool)), k ≤ n ∧ i = .int .i64 k ∧ f = .int .i64 t ∧ 0 ≤ t ∧ t < per ∧
      Hid (∀ j e, k ≤ j → es[j]? = some e → t ≤ e.t) ∧ Hid (spansOf per [b0, b1, b2, b3, b4, b5] es = pre ++ spansF per (es.drop k) [c0, c1, c2, c3, c4, c5] t) ∧ pre.length ≤ k ∧
      wr.ownsRow (w.heap.size + 2) 172 7 v pre.length (pre.map spanRow).flatten ∧ Blk wr (w.heap.size + 1) 48 #[.bool c0, .bool c1, .bool c2, .bool c3, .bool c4, .bool c5] ∧
      wr.cell? ⟨w.heap.size, 0, none⟩ = some (.int .i64 per) ∧ Below w.heap.size w wr) (fun _ _ i _ => n - (intOf i).toNat)
  case atStart => exact ⟨0, 0, b0, b1, b2, b3, b4, b5, [], Nat.zero_le _, rfl, rfl, Int.le_refl _, by omega, fun j e _ he => by
      have h1 := (List.getElem?_eq_some_iff.1 he)
      obtain ⟨h1, rfl⟩ := h1
      exact (hv.ins j h1).1, rfl, Nat.le_refl _, World.ownsRow_nil _ _ _ _, Blk.new' (by simp), by simp, ((Below.refl _ _).alloc (Nat.le_refl _) _).alloc (by simp) _⟩
  case round =>
    obtain ⟨k, t, c0, c1, c2, c3, c4, c5, pre, hk, rfl, rfl, ht0, ht1, hlat, hpre, hpl, hown, hblk, h0, hb⟩ := hrel
    have hsz : w.heap.size + 1 < wr.heap.size := hblk.lt
    have k0 := hblk.cell 0
    have k1 := hblk.cell 1
    have k2 := hblk.cell 2
    have k3 := hblk.cell 3
    have k4 := hblk.cell 4
    have k5 := hblk.cell 5
    simp only [List.getElem?_toArray, List.getElem?_cons_zero, List.getElem?_cons_succ] at k0 k1 k2 k3 k4 k5
    by_cases hlt : k < n
    · have hkl : k < es.length := by have := HN.out; omega
      obtain ⟨e, he⟩ : ∃ e, es[k]? = some e := ⟨_, List.getElem?_eq_getElem hkl⟩
      obtain ⟨ad, p, rfl, hpa, hpb, e0, e1, e2⟩ := (hE.below hb).three (k := k) (x := .int .i64 e.t) (y := .int .i64 e.s) (z := .bool e.o) (by rw [List.getElem?_map, he]; rfl)
      have hpb1 : p.block < wr.heap.size := by omega
      obtain ⟨hin1, hin2, hin3, hin4⟩ : 0 ≤ e.t ∧ e.t < per ∧ 0 ≤ e.s ∧ e.s ≤ 5 := by
        have := hv.ins k hkl
        rw [List.getElem?_eq_getElem hkl] at he
        injection he with he
        rw [he] at this
        exact this
      have HE := Lib.hid he
      clear he
      obtain ⟨d0, d1, d2, d3, d4, d5, hs1, hs2, x, hx⟩ := six_set c0 c1 c2 c3 c4 c5 e.o e.s.toNat (by omega)
      have HS1 := Lib.hid hs1
      have HS2 := Lib.hid hs2
      clear hs1 hs2
      have hcx := hblk.cell e.s.toNat
      rw [hx] at hcx
      have hfx := hblk.frozen e.s.toNat
      clear hx
      by_cases hlt2 : t < e.t
      · go_wp2_with (at_builtin; refine wpList_append_own _ rfl _ _ 145 rfl (w.heap.size + 2) 172 i0 _ 7 16 Tryz.underlying145 hi hz0 hz1 hz2 rfl (by decide) _ _ _ rfl ((hown.alloc _).alloc _) ⟨wr.heap.size + 1, 0, none⟩ 1 1 [.int .i64 (e.t - t), .bool c0, .bool c1, .bool c2, .bool c3, .bool c4, .bool c5] rfl rfl ?c1 ?c2 ?c3 ?c4 ?c5 ?_)
        case c1 => exact news_alloc _ [_, _, _, _, _, _, _] _ _ (by simp)
        case c2 => intro u hu; simp at hu; rcases hu with h | h | h | h | h | h | h <;> subst h <;> rfl
        case c3 => unfold maxLen; omega
        case c4 => omega
        case c5 => simp; omega
        intro v' w1 hown' hgrow _
        have hne : ∀ g, g < w.heap.size + 2 ∨ wr.heap.size ≤ g → some g ≠ u3.ownBlock := fun g hg => own_ne hown hg
        have hblk1 := ((hblk.alloc (.cells #[.int .i64 e.t, .int .i64 e.s, .bool e.o] 143)).alloc (.cells #[.int .i64 (e.t - t), .bool c0, .bool c1, .bool c2, .bool c3, .bool c4, .bool c5] 172)).grown hgrow (hne _ (by omega))
        have hblk2 := ((Blk.new wr 143 #[.int .i64 e.t, .int .i64 e.s, .bool e.o]).alloc (.cells #[.int .i64 (e.t - t), .bool c0, .bool c1, .bool c2, .bool c3, .bool c4, .bool c5] 172)).grown hgrow (hne _ (by omega))
        have hb1 := ((hb.alloc (by omega) (.cells #[.int .i64 e.t, .int .i64 e.s, .bool e.o] 143)).alloc (by simp; omega) (.cells #[.int .i64 (e.t - t), .bool c0, .bool c1, .bool c2, .bool c3, .bool c4, .bool c5] 172)).grown hgrow (by simp; omega) (fun g hg => by have := own_ge hown g hg; omega)
        have f0 := hblk2.cell 0
        have f1 := hblk2.cell 1
        have f2 := hblk2.cell 2
        simp only [List.getElem?_toArray, List.getElem?_cons_zero, List.getElem?_cons_succ] at f0 f1 f2
        have hcx1 : w1.cell? ⟨w.heap.size + 1, e.s.toNat, none⟩ = some (.bool x) := by rw [hblk1.cell, ← hblk.cell]; exact hcx
        have hfx1 := hblk1.frozen e.s.toNat
        have hP1 : w1.cell? ⟨w.heap.size, 0, none⟩ = some (.int .i64 per) := by
          rw [hgrow.cell (v := .int .i64 per) (by rw [World.cell?_alloc_past _ _ _ (by simp; omega), World.cell?_alloc_past _ _ _ (by omega)]; exact h0) (hne w.heap.size (by omega))]
        have hsz1 : wr.heap.size + 2 ≤ w1.heap.size := by have := hgrow.size; simpa using this
        clear hgrow hown hcx hfx k0 k1 k2 k3 k4 k5 h0 e0 e1 e2
        go_wp2
        go_roundw
        case rel =>
          refine ⟨k + 1, e.t, d0, d1, d2, d3, d4, d5, pre ++ [(e.t - t, [c0, c1, c2, c3, c4, c5])], by omega, by go_num, rfl, hin1, hin2, hv.later HE.out, ?_, by simp; omega, ?_, ?_, ?_, hb1.setCell (Nat.le_succ _) _⟩
          · show _ = _
            rw [hpre.out, spansF_step HE.out, if_pos hlt2, ← HS2.out]
            simp [step]
          · refine ownsRow_setCell_below ?_ (Nat.lt_succ_self _) _
            simpa [spanRow, List.flatten_append] using hown'
          · rw [← HS1.out]; exact hblk1.set_ _ _
          · rw [World.cell?_setCell_other _ _ _ _ (by simp)]; exact hP1
        case measure => simp [intOf]; omega
      · go_wp2
        go_roundw
        case rel =>
          refine ⟨k + 1, t, d0, d1, d2, d3, d4, d5, pre, by omega, by go_num, rfl, ht0, ht1, fun j x hj hx => hlat.out j x (by omega) hx, ?_, by omega, ?_, ?_, ?_, (hb.setCell (Nat.le_succ _) _).alloc (by simp; omega) _⟩
          · show _ = _
            rw [hpre.out, spansF_step HE.out, if_neg hlt2, ← HS2.out]
            rfl
          · exact (ownsRow_setCell_below hown (Nat.lt_succ_self _) _).alloc _
          · rw [← HS1.out]; exact (hblk.set_ _ _).alloc _
          · rw [World.cell?_alloc_past _ _ _ (by simp; omega), World.cell?_setCell_other _ _ _ _ (by simp)]; exact h0
        case measure => simp [intOf]; omega
    · have hkn : es.length ≤ k := by have := HN.out; omega
      go_wp2_with (at_builtin; refine wpList_append_own _ rfl _ _ 145 rfl (w.heap.size + 2) 172 i0 _ 7 16 Tryz.underlying145 hi hz0 hz1 hz2 rfl (by decide) _ _ _ rfl (hown.alloc _) ⟨wr.heap.size, 0, none⟩ 1 1 [.int .i64 (per - t), .bool c0, .bool c1, .bool c2, .bool c3, .bool c4, .bool c5] rfl rfl ?e1 ?e2 ?e3 ?e4 ?e5 ?_)
      case e1 => exact news_alloc _ [_, _, _, _, _, _, _] _ _ rfl
      case e2 => intro u hu; simp at hu; rcases hu with h | h | h | h | h | h | h <;> subst h <;> rfl
      case e3 => unfold maxLen; omega
      case e4 => omega
      case e5 => simp; omega
      intro v' w1 hown' hgrow _
      have hb1 := (hb.alloc (by omega) (.cells #[.int .i64 (per - t), .bool c0, .bool c1, .bool c2, .bool c3, .bool c4, .bool c5] 172)).grown hgrow (by simp; omega) (fun g hg => by have := own_ge hown g hg; omega)
      have hfin : (spansOf per [b0, b1, b2, b3, b4, b5] es) = pre ++ [(per - t, [c0, c1, c2, c3, c4, c5])] := by
        rw [hpre.out, spansF_end hkn]
      have HF := Lib.hid hfin
      clear hfin hgrow
      go_wp2
      go_ret
      refine ⟨_, rfl, ?_, hb1⟩
      rw [HF.out]
      refine World.ownsRow.rebase (base := w.heap.size + 2) ?_ (by omega)
      simpa [spanRow, List.flatten_append] using hown'

end Go.Proofs.YtpfkiohknpeifaaGreat.I

namespace Go.Proofs.YtpfkiohknpeifaaGreat.I
open Go.RowKit

theorem shortB_six (c0 c1 c2 c3 c4 c5 : Bool) : shortB [c0, c1, c2, c3, c4, c5] = ((c0 && c1) || (c2 && c3) || (c4 && c5)) := rfl
theorem any_hit {α : Type} {l : List α} {p : α → Bool} {k : Nat} {x : α} (h : l[k]? = some x) (hp : p x = true) : l.any p = true := by
  obtain ⟨h1, rfl⟩ := List.getElem?_eq_some_iff.1 h
  exact List.any_eq_true.2 ⟨_, List.getElem_mem h1, hp⟩
theorem any_miss {α : Type} {l : List α} {p : α → Bool} (h : ∀ (j : Nat) (x : α), l[j]? = some x → p x = false) : l.any p = false := by
  rw [List.any_eq_false]
  intro x hx
  obtain ⟨i, hi, rfl⟩ := List.getElem_of_mem hx
  rw [h i _ (List.getElem?_eq_getElem hi)]
  simp

set_option maxHeartbeats 800000 in
theorem shorted_walk (A : Option Addr) (n c : Nat) (sp : List (Int × List Bool)) (w : World) (hE : Sl w w.heap.size 7 A (sp.map spanRow)) (hn : n = sp.length) (hm : n ≤ 1000001) (h6 : ∀ x ∈ sp, x.2.length = 6) :
    Calls Tryz.prog 83 #[.slice A n c] w fun e w' => e = .returned (.bool (sp.any fun x => shortB x.2)) ∧ Below w.heap.size w w' := by
  have HN := Lib.hid hn
  clear hn
  go_enter Tryz.func83, Tryz.ntmps83
  go_wp2
  go_loopw [8] (fun i wr => ∃ k : Nat, k ≤ n ∧ i = .int .i64 k ∧ Hid (∀ j x, j < k → sp[j]? = some x → shortB x.2 = false) ∧ Below w.heap.size w wr) (fun i _ => n - (intOf i).toNat)
  case atStart => exact ⟨0, Nat.zero_le _, rfl, fun j x h => by omega, Below.refl _ _⟩
  case round =>
    obtain ⟨k, hk, rfl, hg, hb⟩ := hrel
    have hsz := hb.size
    by_cases hlt : k < n
    · have hkl : k < sp.length := by have := HN.out; omega
      obtain ⟨⟨q, on⟩, he⟩ : ∃ e, sp[k]? = some e := ⟨_, List.getElem?_eq_getElem hkl⟩
      obtain ⟨c0, c1, c2, c3, c4, c5, hon⟩ := six_of (h6 _ (List.mem_of_getElem? he))
      simp only at hon
      subst hon
      obtain ⟨ad, p, rfl, hpa, hpb, e0, e1, e2, e3, e4, e5, e6⟩ := (hE.below hb).seven (k := k) (by rw [List.getElem?_map, he]; rfl)
      have hpb1 : p.block < wr.heap.size := by omega
      have HE := Lib.hid he
      clear he
      have hbx := hb.alloc hsz (.cells #[.int .i64 q, .bool c0, .bool c1, .bool c2, .bool c3, .bool c4, .bool c5] 172)
      go_wp2
      go_loop [12] (fun i => i = .int .i64 0 ∨ (i = .int .i64 1 ∧ Hid ((c0 && c1) = false)) ∨ (i = .int .i64 2 ∧ Hid ((c0 && c1) = false ∧ (c2 && c3) = false)) ∨ (i = .int .i64 3 ∧ Hid ((c0 && c1) = false ∧ (c2 && c3) = false ∧ (c4 && c5) = false))) (fun i => 3 - (intOf i).toNat)
      case atStart => exact .inl rfl
      case round =>
        rcases hrel with rfl | ⟨rfl, hA⟩ | ⟨rfl, hA⟩ | ⟨rfl, hA⟩
        · rcases c0 <;> rcases c1
          all_goals
            go_wp2
            first
            | (go_ret
               exact ⟨congrArg (fun b => Ending.returned (.bool b)) (any_hit HE.out (by simp [shortB_six])).symm, hbx⟩)
            | (go_round
               case rel => exact .inr (.inl ⟨rfl, rfl⟩)
               case measure => simp [intOf])
        · rcases c2 <;> rcases c3
          all_goals
            go_wp2
            first
            | (go_ret
               exact ⟨congrArg (fun b => Ending.returned (.bool b)) (any_hit HE.out (by simp [shortB_six])).symm, hbx⟩)
            | (go_round
               case rel => exact .inr (.inr (.inl ⟨rfl, hA.out, rfl⟩))
               case measure => simp [intOf])
        · rcases c4 <;> rcases c5
          all_goals
            go_wp2
            first
            | (go_ret
               exact ⟨congrArg (fun b => Ending.returned (.bool b)) (any_hit HE.out (by simp [shortB_six])).symm, hbx⟩)
            | (go_round
               case rel => exact .inr (.inr (.inr ⟨rfl, hA.out.1, hA.out.2, rfl⟩))
               case measure => simp [intOf])
        · have HS : Hid (shortB [c0, c1, c2, c3, c4, c5] = false) := by
            show _ = _
            rw [shortB_six, hA.out.1, hA.out.2.1, hA.out.2.2]; rfl
          go_wp2
          go_roundw
          case rel =>
            refine ⟨k + 1, by omega, by go_num, fun j x hj hx => ?_, hbx⟩
            by_cases hjk : j = k
            · subst hjk
              rw [HE.out] at hx
              injection hx with hx
              subst hx
              exact HS.out
            · exact hg.out j x (by omega) hx
          case measure => simp [intOf]; omega
    · have HF : Hid ((sp.any fun x => shortB x.2) = false) := any_miss fun j x hx => hg.out j x (by have := (List.getElem?_eq_some_iff.1 hx).1; have := HN.out; omega) hx
      go_wp2
      go_ret
      exact ⟨by rw [HF.out]; rfl, hb⟩

end Go.Proofs.YtpfkiohknpeifaaGreat.I

namespace Go.Proofs.YtpfkiohknpeifaaGreat.I
open Go.RowKit

def boolRow (b : List Bool) : List Value := b.map .bool

theorem Tryz.infoSix : (Tryz.prog.info? 48).map (fun i => (i.zero, i.size, i.bytes)) = some (some (.agg #[.bool false, .bool false, .bool false, .bool false, .bool false, .bool false]), 6, 6) := by kernel_rfl

/-- The states at the first k counts. -/
def rowsTo (on : List Bool) (es : List Ed) (k : Nat) : List (List Bool) := (List.range k).map fun (t : Nat) => onAt on es (t : Int)
theorem rowsTo_succ (on : List Bool) (es : List Ed) (k : Nat) : rowsTo on es (k + 1) = rowsTo on es k ++ [onAt on es (k : Int)] := by
  simp [rowsTo, List.range_succ]
theorem rowsTo_length (on : List Bool) (es : List Ed) (k : Nat) : (rowsTo on es k).length = k := by simp [rowsTo]
theorem rowsTo_all (per : Int) (on : List Bool) (es : List Ed) : rowsF per on es = rowsTo on es per.toNat := rfl

theorem fold_take {on : List Bool} {es : List Ed} {j : Nat} {e : Ed} (he : es[j]? = some e) : (es.take (j + 1)).foldl step on = step ((es.take j).foldl step on) e := by
  obtain ⟨h, rfl⟩ := List.getElem?_eq_some_iff.1 he
  rw [List.take_succ_eq_append_getElem h, List.foldl_append]
  rfl

set_option maxHeartbeats 1600000 in
theorem at_walk (per : Int) (b0 b1 b2 b3 b4 b5 : Bool) (A : Option Addr) (n c : Nat) (es : List Ed) (w : World) (hE : Sl w w.heap.size 3 A (es.map Ed.row)) (hn : n = es.length) (hm : n ≤ 1000000)
    (hv : Valid per es) (hp1 : 64 ≤ per) (hp2 : per ≤ 4096) :
    Calls Tryz.prog 102 #[.agg #[.int .i64 per, .bool b0, .bool b1, .bool b2, .bool b3, .bool b4, .bool b5, .slice A n c]] w fun e w' =>
      ∃ v, e = .returned v ∧ w'.ownsRow w.heap.size 48 6 v per.toNat ((rowsF per [b0, b1, b2, b3, b4, b5] es).map boolRow).flatten ∧ Below w.heap.size w w' := by
  have HN := Lib.hid hn
  clear hn
  obtain ⟨i0, hi, hz0, hz1, hz2⟩ := info_parts Tryz.infoSix
  go_enter Tryz.func102, Tryz.ntmps102
  go_wp2
  go_loopw [3, 5, 6] (fun v x i wr => ∃ (k j : Nat) (c0 c1 c2 c3 c4 c5 : Bool), (k : Int) ≤ per ∧ j ≤ n ∧ i = .int .i64 k ∧ x = .int .i64 j ∧
      Hid ((es.take j).foldl step [b0, b1, b2, b3, b4, b5] = [c0, c1, c2, c3, c4, c5]) ∧ Hid (∀ i e, i < j → es[i]? = some e → e.t < k) ∧ Hid (∀ i e, j ≤ i → es[i]? = some e → (k : Int) ≤ e.t) ∧
      wr.ownsRow (w.heap.size + 2) 48 6 v k ((rowsTo [b0, b1, b2, b3, b4, b5] es k).map boolRow).flatten ∧ Blk wr (w.heap.size + 1) 48 #[.bool c0, .bool c1, .bool c2, .bool c3, .bool c4, .bool c5] ∧
      Blk wr w.heap.size 51 #[.int .i64 per, .bool b0, .bool b1, .bool b2, .bool b3, .bool b4, .bool b5, .slice A n c] ∧ Below w.heap.size w wr) (fun _ _ i _ => (per - intOf i).toNat)
  case atStart => exact ⟨0, 0, b0, b1, b2, b3, b4, b5, by omega, Nat.zero_le _, rfl, rfl, rfl, (fun i e h => by omega), (fun i e _ he => by
      obtain ⟨h1, rfl⟩ := List.getElem?_eq_some_iff.1 he
      exact (hv.ins i h1).1), World.ownsRow_nil _ _ _ _, Blk.new' (by simp), (Blk.new' rfl).alloc _, ((Below.refl _ _).alloc (Nat.le_refl _) _).alloc (by simp) _⟩
  case round =>
    obtain ⟨k, j, c0, c1, c2, c3, c4, c5, hk, hj, rfl, rfl, hst, hearly, hlate, hown, hblk, hbox, hb⟩ := hrel
    obtain ⟨wo, rfl⟩ : ∃ wo : World, wo = wr := ⟨_, rfl⟩
    have h0 := hbox.c8.1
    by_cases hlt : (k : Int) < per
    · go_wp2
      go_loopw [5] (fun x wr => ∃ (j : Nat) (c0 c1 c2 c3 c4 c5 : Bool), j ≤ n ∧ x = .int .i64 j ∧
          Hid ((es.take j).foldl step [b0, b1, b2, b3, b4, b5] = [c0, c1, c2, c3, c4, c5]) ∧ Hid (∀ i e, i < j → es[i]? = some e → e.t ≤ k) ∧ Hid (∀ i e, j ≤ i → es[i]? = some e → (k : Int) ≤ e.t) ∧
          wr.ownsRow (w.heap.size + 2) 48 6 u3 k ((rowsTo [b0, b1, b2, b3, b4, b5] es k).map boolRow).flatten ∧ Blk wr (w.heap.size + 1) 48 #[.bool c0, .bool c1, .bool c2, .bool c3, .bool c4, .bool c5] ∧
          Blk wr w.heap.size 51 #[.int .i64 per, .bool b0, .bool b1, .bool b2, .bool b3, .bool b4, .bool b5, .slice A n c] ∧ Below w.heap.size w wr) (fun x _ => n - (intOf x).toNat)
      case atStart => exact ⟨j, c0, c1, c2, c3, c4, c5, hj, rfl, hst, (fun i e h1 h2 => by have := hearly.out i e h1 h2; omega), hlate, hown, hblk, hbox, hb⟩
      case round =>
        clear hst hearly hlate hown hblk hbox hb h0
        obtain ⟨j, c0, c1, c2, c3, c4, c5, hj, rfl, hst, hearly, hlate, hown, hblk, hbox, hb⟩ := hrel
        have h7 := hbox.c8.2.2.2.2.2.2.2
        have hsz : w.heap.size + 1 < wr.heap.size := hblk.lt
        have k0 := hblk.c6.1
        have k1 := hblk.c6.2.1
        have k2 := hblk.c6.2.2.1
        have k3 := hblk.c6.2.2.2.1
        have k4 := hblk.c6.2.2.2.2.1
        have k5 := hblk.c6.2.2.2.2.2
        by_cases hgo : ∃ e, es[j]? = some e ∧ e.t = (k : Int)
        · obtain ⟨e, he, hek⟩ := hgo
          have hjl := (List.getElem?_eq_some_iff.1 he).1
          have hjn : j < n := by have := HN.out; omega
          obtain ⟨ad, p, rfl, hpa, hpb, e0, e1, e2⟩ := (hE.below hb).three (k := j) (x := .int .i64 (k : Int)) (y := .int .i64 e.s) (z := .bool e.o) (by rw [List.getElem?_map, he, ← hek]; rfl)
          have hpb1 : p.block < wr.heap.size := by omega
          obtain ⟨hin3, hin4⟩ : 0 ≤ e.s ∧ e.s ≤ 5 := by
            obtain ⟨h1, rfl⟩ := List.getElem?_eq_some_iff.1 he
            exact (hv.ins j h1).2.2
          obtain ⟨d0, d1, d2, d3, d4, d5, hs1, hs2, x, hx⟩ := six_set c0 c1 c2 c3 c4 c5 e.o e.s.toNat (by omega)
          have HE := Lib.hid he
          have HEK := Lib.hid hek
          have HS1 := Lib.hid hs1
          have HS2 := Lib.hid hs2
          clear hs1 hs2 he hek
          have hcx := hblk.cell e.s.toNat
          rw [hx] at hcx
          have hfx := hblk.frozen e.s.toNat
          clear hx
          go_wp2
          go_region
          all_goals go_wp2
          all_goals go_roundw
          case rel =>
            refine ⟨j + 1, d0, d1, d2, d3, d4, d5, by omega, by go_num, ?_, ?_, ?_, ?_, ?_, ?_, ?_⟩
            · show _ = _
              rw [fold_take HE.out, hst.out, ← HS2.out]; rfl
            · intro i x' h1 h2
              by_cases hij : i = j
              · subst hij
                rw [HE.out] at h2
                injection h2 with h2
                subst h2
                exact Int.le_of_eq HEK.out
              · exact hearly.out i x' (by omega) h2
            · exact fun i x' h1 h2 => hlate.out i x' (by omega) h2
            · exact ownsRow_setCell_below hown (Nat.lt_succ_self _) _
            · rw [← HS1.out]; exact hblk.set_ _ _
            · exact hbox.far (by simp) _
            · exact (hb.setCell (Nat.le_succ _) _).drew
          case measure => simp [intOf]; omega
        · have hrow : onAt [b0, b1, b2, b3, b4, b5] es (k : Int) = [c0, c1, c2, c3, c4, c5] := by
            rw [onAt_take es k j (fun i hi e he => hearly.out i e hi he) (fun i hi e he => by
              have h1 := hlate.out i e hi he
              by_cases hij : i = j
              · subst hij
                have : e.t ≠ (k : Int) := fun h => hgo ⟨e, he, h⟩
                omega
              · have hjl := (List.getElem?_eq_some_iff.1 he).1
                have h2 := hv.later (List.getElem?_eq_getElem (show j < es.length by omega)) i e (by omega) he
                have h3 := hlate.out j _ (Nat.le_refl _) (List.getElem?_eq_getElem (show j < es.length by omega))
                have : (es[j]'(by omega)).t ≠ (k : Int) := fun h => hgo ⟨_, List.getElem?_eq_getElem (by omega), h⟩
                omega), hst.out]
          have hlate2 : Hid (∀ i e, j ≤ i → es[i]? = some e → ((k + 1 : Nat) : Int) ≤ e.t) := fun i e hi he => by
            have h1 := hlate.out i e hi he
            by_cases hij : i = j
            · subst hij
              have : e.t ≠ (k : Int) := fun h => hgo ⟨e, he, h⟩
              omega
            · have hjl := (List.getElem?_eq_some_iff.1 he).1
              have h2 := hv.later (List.getElem?_eq_getElem (show j < es.length by omega)) i e (by omega) he
              have h3 := hlate.out j _ (Nat.le_refl _) (List.getElem?_eq_getElem (show j < es.length by omega))
              have : (es[j]'(by omega)).t ≠ (k : Int) := fun h => hgo ⟨_, List.getElem?_eq_getElem (by omega), h⟩
              omega
          have HR := Lib.hid hrow
          clear hrow
          have hcase : (∃ e, j < n ∧ es[j]? = some e ∧ (e.t == (k : Int)) = false) ∨ n ≤ j := by
            by_cases hjn : j < n
            · have hjl : j < es.length := by have := HN.out; omega
              refine .inl ⟨_, hjn, List.getElem?_eq_getElem hjl, ?_⟩
              rw [beq_eq_false_iff_ne]
              exact fun h => hgo ⟨_, List.getElem?_eq_getElem hjl, h⟩
            · exact .inr (by omega)
          clear hgo
          rcases hcase with ⟨e, hjn, he, hek⟩ | hjn
          · obtain ⟨ad, p, rfl, hpa, hpb, e0, e1, e2⟩ := (hE.below hb).three (k := j) (x := .int .i64 e.t) (y := .int .i64 e.s) (z := .bool e.o) (by rw [List.getElem?_map, he]; rfl)
            clear he
            go_wp2_with (at_builtin; refine wpList_append_own _ rfl _ _ 161 rfl (w.heap.size + 2) 48 i0 _ 6 6 Tryz.underlying161 hi hz0 hz1 hz2 rfl (by decide) _ _ _ rfl (hown.alloc _) ⟨wr.heap.size, 0, none⟩ 1 1 [.bool c0, .bool c1, .bool c2, .bool c3, .bool c4, .bool c5] rfl rfl (news_alloc _ [_, _, _, _, _, _] _ _ rfl) (by intro u hu; simp at hu; rcases hu with h | h | h | h | h | h <;> subst h <;> rfl) (by unfold maxLen; omega) (by omega) (by simp; omega) ?_)
            intro v' w1 hown' hgrow _
            have hbox1 := (hbox.alloc (.cells #[.bool c0, .bool c1, .bool c2, .bool c3, .bool c4, .bool c5] 48)).grown hgrow (own_ne hown (by omega))
            have hblk1 := (hblk.alloc (.cells #[.bool c0, .bool c1, .bool c2, .bool c3, .bool c4, .bool c5] 48)).grown hgrow (own_ne hown (by omega))
            have hb1 := (hb.alloc (by omega) (.cells #[.bool c0, .bool c1, .bool c2, .bool c3, .bool c4, .bool c5] 48)).grown hgrow (by simp; omega) (fun g hg => by have := own_ge hown g hg; omega)
            have hown1 : w1.ownsRow (w.heap.size + 2) 48 6 v' (k + 1) ((rowsTo [b0, b1, b2, b3, b4, b5] es (k + 1)).map boolRow).flatten := by
              rw [rowsTo_succ, HR.out]; simpa [boolRow, List.flatten_append] using hown'
            clear hown' hgrow hown hblk hbox hb k0 k1 k2 k3 k4 k5
            go_wp2
            go_roundw
            case rel =>
              refine ⟨k + 1, j, c0, c1, c2, c3, c4, c5, by omega, hj, by go_num, rfl, hst, fun i x h1 h2 => ?_, hlate2, hown1, hblk1, hbox1, hb1⟩
              have := hearly.out i x h1 h2
              omega
            case measure => simp [intOf]; omega
          · have hdj : decide (j < n) = false := by simpa using hjn
            clear hjn
            go_wp2_with (at_builtin; refine wpList_append_own _ rfl _ _ 161 rfl (w.heap.size + 2) 48 i0 _ 6 6 Tryz.underlying161 hi hz0 hz1 hz2 rfl (by decide) _ _ _ rfl (hown.alloc _) ⟨wr.heap.size, 0, none⟩ 1 1 [.bool c0, .bool c1, .bool c2, .bool c3, .bool c4, .bool c5] rfl rfl (news_alloc _ [_, _, _, _, _, _] _ _ rfl) (by intro u hu; simp at hu; rcases hu with h | h | h | h | h | h <;> subst h <;> rfl) (by unfold maxLen; omega) (by omega) (by simp; omega) ?_)
            intro v' w1 hown' hgrow _
            have hbox1 := (hbox.alloc (.cells #[.bool c0, .bool c1, .bool c2, .bool c3, .bool c4, .bool c5] 48)).grown hgrow (own_ne hown (by omega))
            have hblk1 := (hblk.alloc (.cells #[.bool c0, .bool c1, .bool c2, .bool c3, .bool c4, .bool c5] 48)).grown hgrow (own_ne hown (by omega))
            have hb1 := (hb.alloc (by omega) (.cells #[.bool c0, .bool c1, .bool c2, .bool c3, .bool c4, .bool c5] 48)).grown hgrow (by simp; omega) (fun g hg => by have := own_ge hown g hg; omega)
            have hown1 : w1.ownsRow (w.heap.size + 2) 48 6 v' (k + 1) ((rowsTo [b0, b1, b2, b3, b4, b5] es (k + 1)).map boolRow).flatten := by
              rw [rowsTo_succ, HR.out]; simpa [boolRow, List.flatten_append] using hown'
            clear hown' hgrow hown hblk hbox hb k0 k1 k2 k3 k4 k5
            go_wp2
            go_roundw
            case rel =>
              refine ⟨k + 1, j, c0, c1, c2, c3, c4, c5, by omega, hj, by go_num, rfl, hst, fun i x h1 h2 => ?_, hlate2, hown1, hblk1, hbox1, hb1⟩
              have := hearly.out i x h1 h2
              omega
            case measure => simp [intOf]; omega
    · go_wp2
      go_ret
      obtain rfl : k = per.toNat := by omega
      exact ⟨_, rfl, hown.rebase (by omega), hb⟩

end Go.Proofs.YtpfkiohknpeifaaGreat.I

namespace Go.Proofs.YtpfkiohknpeifaaGreat.I
open Go.RowKit

/-- n, moved into lo to hi. -/
def clipI (n lo hi : Int) : Int := if n < lo then lo else if hi < n then hi else n

theorem num_nil (w : World) : Calls Tryz.prog 10 #[.nilIface] w fun e w' => e = .returned (.int .i64 0) ∧ w = w' := by
  go_enter Tryz.func10, Tryz.ntmps10
  go_wp2
  go_ret
  exact ⟨rfl, rfl⟩
theorem num_assert (m : Int) (w : World) : (Instr.typeAssert (.iface 87 (.int .i64 m)) 56 87 true).run Tryz.prog w = .ok (.tuple #[.int .i64 m, .bool true]) w := by kernel_rfl
theorem num_iface (m : Int) (w : World) : Calls Tryz.prog 10 #[.iface 87 (.int .i64 m)] w fun e w' => e = .returned (.int .i64 m) ∧ w = w' := by
  have hta := num_assert m
  go_enter Tryz.func10, Tryz.ntmps10
  go_wp2
  go_ret
  exact ⟨rfl, rfl⟩
theorem num_any (m : Int) (w : World) : Calls Tryz.prog 10 #[errV m] w fun e w' => e = .returned (.int .i64 m) ∧ w = w' := by
  by_cases h : m = 0
  · subst h; exact num_nil w
  · rw [errV_ne h]; exact num_iface m w

theorem clip_a (n lo hi : Int) (h : lo ≤ hi) (w : World) : Calls Tryz.prog 130 #[.int .i64 n, .int .i64 lo, .int .i64 hi] w fun e w' => e = .returned (.int .i64 (clipI n lo hi)) ∧ w = w' := by
  by_cases h1 : n < lo
  · go_enter Tryz.func130, Tryz.ntmps130
    go_wp2
    go_ret
    exact ⟨by unfold clipI; rw [if_pos h1]; rfl, rfl⟩
  · by_cases h2 : hi < n
    · go_enter Tryz.func130, Tryz.ntmps130
      go_wp2
      go_ret
      exact ⟨by unfold clipI; rw [if_neg (by omega), if_pos (by omega)]; rfl, rfl⟩
    · go_enter Tryz.func130, Tryz.ntmps130
      go_wp2
      go_ret
      exact ⟨by unfold clipI; rw [if_neg (by omega), if_neg (by omega)]; rfl, rfl⟩

theorem clip_r (n lo hi : Int) (h : lo ≤ hi) (w : World) : Calls Tryz.prog 107 #[.int .i64 n, .int .i64 lo, .int .i64 hi] w fun e w' => e = .returned (.int .i64 (clipI n lo hi)) ∧ w = w' := by
  go_enter Tryz.func107, Tryz.ntmps107
  by_cases h1 : n < lo
  · go_wp2
    all_goals go_ret
    all_goals exact ⟨congrArg (fun x => Ending.returned (.int .i64 x)) (by unfold clipI; rw [if_pos (by omega)]), rfl⟩
  · by_cases h2 : hi < n
    · go_wp2
      all_goals go_ret
      all_goals exact ⟨congrArg (fun x => Ending.returned (.int .i64 x)) (by unfold clipI; rw [if_neg (by omega), if_pos (by omega)]; try omega), rfl⟩
    · go_wp2
      all_goals go_ret
      all_goals exact ⟨congrArg (fun x => Ending.returned (.int .i64 x)) (by unfold clipI; rw [if_neg (by omega), if_neg (by omega)]; try omega), rfl⟩
end Go.Proofs.YtpfkiohknpeifaaGreat.I

namespace Go.Proofs.YtpfkiohknpeifaaGreat.I
open Go.RowKit

theorem hide {p : Prop} (h : p) : Hid p := h
theorem unhide {p : Prop} (h : Hid p) : p := h

theorem ret_cell_tmp {P : Program} {fn : Func} {p u : Tmp} {ty : TypeId} (h : fn.results = #[.cell p ty, .tmp u]) {tmps : Array Value} {w : World} {a : Addr} {v : Value}
    (hp : tmps.getD p undef = .pointer (some a)) (hl : (loadVar ty a).run P w = .ok v w) : (results fn tmps).run P w = .ok (.tuple #[v, tmps.getD u undef]) w := by
  rw [results_cell_tmp h, hp]
  simp [asAddr, hl]
theorem ret_cell {P : Program} {fn : Func} {p : Tmp} {ty : TypeId} (h : fn.results = #[.cell p ty]) {tmps : Array Value} {w : World} {a : Addr} {v : Value}
    (hp : tmps.getD p undef = .pointer (some a)) (hl : (loadVar ty a).run P w = .ok v w) : (results fn tmps).run P w = .ok v w := by
  have hp' : tmps[p]?.getD undef = .pointer (some a) := by simpa using hp
  simp only [results, h]
  simp [asAddr, hp', hl]
theorem load_ints3 {w : World} {g : Nat} {t : TypeId} {a b c : Value} (h : Blk w g t #[a, b, c]) : (loadVar 67 ⟨g, 0, none⟩).run Tryz.prog w = .ok (.agg #[a, b, c]) w := by
  obtain ⟨k0, k1, k2⟩ := h.c3
  simp [go_sem, k0, k1, k2]
theorem load_gates {w : World} {g : Nat} {t : TypeId} {a b c d e f x y : Value} (h : Blk w g t #[a, b, c, d, e, f, x, y]) : (loadVar 51 ⟨g, 0, none⟩).run Tryz.prog w = .ok (.agg #[a, b, c, d, e, f, x, y]) w := by
  obtain ⟨k0, k1, k2, k3, k4, k5, k6, k7⟩ := h.c8
  simp [go_sem, k0, k1, k2, k3, k4, k5, k6, k7]
theorem load_ab {w : World} {g : Nat} {t : TypeId} {a b : Value} (h : Blk w g t #[a, b]) : (loadVar 122 ⟨g, 0, none⟩).run Tryz.prog w = .ok (.agg #[a, b]) w := by
  obtain ⟨k0, k1⟩ := h.c2
  simp [go_sem, k0, k1]
theorem index3_0 (a b c : Value) (w : World) : (Instr.index 67 (.agg #[a, b, c]) (.int .i64 0)).run Tryz.prog w = .ok a w := by kernel_rfl
theorem index3_1 (a b c : Value) (w : World) : (Instr.index 67 (.agg #[a, b, c]) (.int .i64 1)).run Tryz.prog w = .ok b w := by kernel_rfl
theorem index3_2 (a b c : Value) (w : World) : (Instr.index 67 (.agg #[a, b, c]) (.int .i64 2)).run Tryz.prog w = .ok c w := by kernel_rfl
theorem Sl.of_block {w : World} {g size B : Nat} {e : TypeId} {cs : Array Value} {rs : List (List Value)} (h : Blk w g e cs) (hf : rs.flatten = cs.toList) (hl : ∀ r ∈ rs, r.length = size) (hB : g < B) : Sl w B size (some ⟨g, 0, none⟩) rs :=
  ⟨hl, fun _ => ⟨_, rfl, hB, fun k r hr j u hu => by
    have hadd : (⟨g, 0, none⟩ : Addr).add (k * size + j) = ⟨g, k * size + j, none⟩ := by
      unfold Addr.add
      split <;> simp_all
    rw [hadd, h.cell]
    have := flat_get size rs hl k r hr j u hu
    rw [hf] at this
    simpa using this⟩⟩
theorem w64 {x : Int} (h1 : -4611686018427387904 ≤ x) (h2 : x ≤ 4611686018427387904) : wrap64 x = x := by
  unfold wrap64; omega
theorem quiet_left {P : Program} {f : FuncId} {args : Array Value} {w : World} {n : Nat} {v : Value}
    (h : Calls P f args (w.drewN n) fun e w' => e = .returned v ∧ w.drewN n = w') : Calls P f args (w.drewN n) fun e w'' => e = .returned v ∧ ∃ m, w'' = w.drewN m :=
  h.mono fun _ _ ⟨he, hm⟩ => ⟨he, n, hm.symm⟩
theorem quiet_add_left {P : Program} {f : FuncId} {args : Array Value} {w : World} {a n : Nat} {v : Value}
    (h : Calls P f args (w.drewN (a + n)) fun e w' => e = .returned v ∧ w.drewN (a + n) = w') :
    Calls P f args (w.drewN (a + n)) fun e w'' => e = .returned v ∧ ∃ m, w'' = w.drewN (a + m) :=
  h.mono fun _ _ ⟨he, hm⟩ => ⟨he, n, hm.symm⟩

end Go.Proofs.YtpfkiohknpeifaaGreat.I

namespace Go.Proofs.YtpfkiohknpeifaaGreat.I
open Go.RowKit

def nearB (x : Int) : Bool := decide (-1073741824 ≤ x) && decide (x ≤ 1073741824)
def nearE (xs : List Int) : Int := if xs.all nearB then 0 else 3
theorem nearE_bad {xs : List Int} {k : Nat} {x : Int} (h : xs[k]? = some x) (hb : nearB x = false) : nearE xs = 3 := by
  unfold nearE
  rw [if_neg]
  intro hh
  rw [List.all_eq_true] at hh
  have := hh x (List.mem_of_getElem? h)
  rw [hb] at this
  cases this
theorem nearE_good {xs : List Int} (h : ∀ (j : Nat) (x : Int), xs[j]? = some x → nearB x = true) : nearE xs = 0 := by
  unfold nearE
  rw [if_pos]
  rw [List.all_eq_true]
  intro x hx
  obtain ⟨i, hi, rfl⟩ := List.getElem_of_mem hx
  exact h i _ (List.getElem?_eq_getElem hi)
def fwdA (a b c : Int) : Int := (2 * a - b - c).tdiv 3
def fwdB (b c : Int) : Int := ((b - c) * 37837).tdiv 65536

set_option maxHeartbeats 400000 in
theorem near_walk (A : Option Addr) (n c : Nat) (xs : List Int) (w : World) (hE : Sl w w.heap.size 1 A (xs.map fun x => [.int .i64 x])) (hn : n = xs.length) (hm : n ≤ 1000000) :
    Calls Tryz.prog 127 #[.slice A n c] w fun e w' => e = .returned (errV (nearE xs)) ∧ w = w' := by
  have HN := Lib.hid hn
  clear hn
  go_enter Tryz.func127, Tryz.ntmps127
  go_wp2
  go_loop [7] (fun i => ∃ k : Nat, k ≤ n ∧ i = .int .i64 k ∧ Hid (∀ (j : Nat) (x : Int), j < k → xs[j]? = some x → nearB x = true)) (fun i => n - (intOf i).toNat)
  case atStart => exact ⟨0, Nat.zero_le _, rfl, fun j x h => by omega⟩
  case round =>
    obtain ⟨k, hk, rfl, hg⟩ := hrel
    by_cases hlt : k < n
    · have hkl : k < xs.length := by have := HN.out; omega
      obtain ⟨x, he⟩ : ∃ x, xs[k]? = some x := ⟨_, List.getElem?_eq_getElem hkl⟩
      obtain ⟨ad, rfl, hb, c0⟩ := hE.cell0 (k := k) (u := .int .i64 x) (by rw [List.getElem?_map, he]; rfl) rfl
      rw [Nat.mul_one] at c0
      have HX := Lib.hid he
      clear he
      by_cases h1 : x < -1073741824
      · have hF : Hid (nearE xs = 3) := nearE_bad HX.out (by simp [nearB]; omega)
        go_wp2
        go_ret
        exact ⟨by rw [hF.out]; rfl, rfl⟩
      · by_cases h2 : 1073741824 < x
        · have hF : Hid (nearE xs = 3) := nearE_bad HX.out (by simp [nearB]; omega)
          go_wp2
          go_ret
          exact ⟨by rw [hF.out]; rfl, rfl⟩
        · have hN : Hid (nearB x = true) := by show _ = _; simp [nearB]; omega
          go_wp2
          go_round
          case rel =>
            refine ⟨k + 1, by omega, by go_num, fun j y hj hy => ?_⟩
            by_cases hjk : j = k
            · subst hjk
              rw [HX.out] at hy
              injection hy with hy
              subst hy
              exact hN.out
            · exact hg.out j y (by omega) hy
          case measure => simp [intOf]; omega
    · have hF : Hid (nearE xs = 0) := nearE_good fun j x hx => hg.out j x (by have := (List.getElem?_eq_some_iff.1 hx).1; have := HN.out; omega) hx
      go_wp2
      go_ret
      exact ⟨by rw [hF.out]; rfl, rfl⟩

set_option maxHeartbeats 400000 in
theorem bad_walk (A : Option Addr) (n c : Nat) (xs : List Int) (w : World) (hE : Sl w w.heap.size 1 A (xs.map fun x => [.int .i64 x])) (hn : n = xs.length) (hm : n ≤ 1000000) :
    Calls Tryz.prog 137 #[.slice A n c] w fun e w' => e = .returned (.int .i64 (nearE xs)) ∧ w = w' := by
  have HN := Lib.hid hn
  clear hn
  go_enter Tryz.func137, Tryz.ntmps137
  go_wp2
  go_loop [7] (fun i => ∃ k : Nat, k ≤ n ∧ i = .int .i64 k ∧ Hid (∀ (j : Nat) (x : Int), j < k → xs[j]? = some x → nearB x = true)) (fun i => n - (intOf i).toNat)
  case atStart => exact ⟨0, Nat.zero_le _, rfl, fun j x h => by omega⟩
  case round =>
    obtain ⟨k, hk, rfl, hg⟩ := hrel
    by_cases hlt : k < n
    · have hkl : k < xs.length := by have := HN.out; omega
      obtain ⟨x, he⟩ : ∃ x, xs[k]? = some x := ⟨_, List.getElem?_eq_getElem hkl⟩
      obtain ⟨ad, rfl, hb, c0⟩ := hE.cell0 (k := k) (u := .int .i64 x) (by rw [List.getElem?_map, he]; rfl) rfl
      rw [Nat.mul_one] at c0
      have HX := Lib.hid he
      clear he
      by_cases h1 : x < -1073741824
      · have hF : Hid (nearE xs = 3) := nearE_bad HX.out (by simp [nearB]; omega)
        go_wp2
        go_ret
        exact ⟨by rw [hF.out]; rfl, rfl⟩
      · by_cases h2 : 1073741824 < x
        · have hF : Hid (nearE xs = 3) := nearE_bad HX.out (by simp [nearB]; omega)
          go_wp2
          go_ret
          exact ⟨by rw [hF.out]; rfl, rfl⟩
        · have hN : Hid (nearB x = true) := by show _ = _; simp [nearB]; omega
          go_wp2
          go_round
          case rel =>
            refine ⟨k + 1, by omega, by go_num, fun j y hj hy => ?_⟩
            by_cases hjk : j = k
            · subst hjk
              rw [HX.out] at hy
              injection hy with hy
              subst hy
              exact hN.out
            · exact hg.out j y (by omega) hy
          case measure => simp [intOf]; omega
    · have hF : Hid (nearE xs = 0) := nearE_good fun j x hx => hg.out j x (by have := (List.getElem?_eq_some_iff.1 hx).1; have := HN.out; omega) hx
      go_wp2
      go_ret
      exact ⟨by rw [hF.out]; rfl, rfl⟩

set_option maxHeartbeats 400000 in
theorem forward_walk (a b c : Int) (w : World) (a1 : -1073741824 ≤ a) (a2 : a ≤ 1073741824) (b1 : -1073741824 ≤ b) (b2 : b ≤ 1073741824) (c1 : -1073741824 ≤ c) (c2 : c ≤ 1073741824) :
    Calls Tryz.prog 132 #[.int .i64 a, .int .i64 b, .int .i64 c] w fun e w' => e = .returned (.tuple #[.int .i64 (fwdA a b c), .int .i64 (fwdB b c), .nilIface]) ∧ Below w.heap.size w w' := by
  have hn := near_walk (some ⟨w.heap.size, 0, none⟩) 3 3 [a, b, c] (w.alloc (.cells #[.int .i64 a, .int .i64 b, .int .i64 c] 3)) (Sl.of_block (Blk.new w _ _) rfl (by simp) (by simp)) rfl (by omega)
  rw [nearE_good (xs := [a, b, c]) (by
    intro j x hx
    match j, hx with
    | 0, hx => simp at hx; subst hx; simp [nearB]; omega
    | 1, hx => simp at hx; subst hx; simp [nearB]; omega
    | 2, hx => simp at hx; subst hx; simp [nearB]; omega)] at hn
  have HN := hide hn
  clear hn
  go_enter Tryz.func132, Tryz.ntmps132
  go_wp2_with fail
  refine (unhide HN).mono ?_
  rintro e w' ⟨rfl, rfl⟩
  rw [errV_zero]
  go_wp2
  go_ret3
  exact ⟨rfl, (Below.refl _ _).alloc (Nat.le_refl _) _⟩

set_option maxHeartbeats 400000 in
theorem rforward_walk (a b c : Int) (w : World) (a1 : -1073741824 ≤ a) (a2 : a ≤ 1073741824) (b1 : -1073741824 ≤ b) (b2 : b ≤ 1073741824) (c1 : -1073741824 ≤ c) (c2 : c ≤ 1073741824) :
    Calls Tryz.prog 109 #[.int .i64 a, .int .i64 b, .int .i64 c] w fun e w' => e = .returned (.tuple #[.int .i64 (fwdA a b c), .int .i64 (fwdB b c), .int .i64 0]) ∧ Below w.heap.size w w' := by
  have hn := bad_walk (some ⟨w.heap.size, 0, none⟩) 3 3 [a, b, c] (w.alloc (.cells #[.int .i64 a, .int .i64 b, .int .i64 c] 3)) (Sl.of_block (Blk.new w _ _) rfl (by simp) (by simp)) rfl (by omega)
  rw [nearE_good (xs := [a, b, c]) (by
    intro j x hx
    match j, hx with
    | 0, hx => simp at hx; subst hx; simp [nearB]; omega
    | 1, hx => simp at hx; subst hx; simp [nearB]; omega
    | 2, hx => simp at hx; subst hx; simp [nearB]; omega)] at hn
  have HN := hide hn
  clear hn
  go_enter Tryz.func109, Tryz.ntmps109
  go_wp2_with fail
  refine (unhide HN).mono ?_
  rintro e w' ⟨rfl, rfl⟩
  skip
  go_wp2
  go_ret3
  exact ⟨rfl, (Below.refl _ _).alloc (Nat.le_refl _) _⟩


end Go.Proofs.YtpfkiohknpeifaaGreat.I
