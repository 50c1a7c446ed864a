/- The walk of the reference's 'At': the states of the switches at every count. -/
import Derived.Test.YtgnojdiecgfeaaaSpans
import Derived.RegionTactic
import Derived.ChangeAlike
namespace Go.Proofs.Ytgnojdiecgfeaaa
open Go.RowKit

def boolRow (b : List Bool) : List Value := b.map .bool

theorem Try.infoSix : (Try.prog.info? 22).map (fun i => (i.zero, i.size, i.bytes)) = some (some (.agg #[.bool false, .bool false, .bool false, .bool false, .bool false, .bool false]), 6, 6) := by kernel_rfl

/-- The states at the first k counts. -/
def rowsTo (on : List Bool) (es : List Ed) (k : Nat) : List (List Bool) := (List.range k).map fun (t : Nat) => onAt on es (t : Int)
theorem rowsTo_succ (on : List Bool) (es : List Ed) (k : Nat) : rowsTo on es (k + 1) = rowsTo on es k ++ [onAt on es (k : Int)] := by
  simp [rowsTo, List.range_succ]
theorem rowsTo_length (on : List Bool) (es : List Ed) (k : Nat) : (rowsTo on es k).length = k := by simp [rowsTo]
theorem rowsTo_all (per : Int) (on : List Bool) (es : List Ed) : rowsF per on es = rowsTo on es per.toNat := rfl

theorem fold_take {on : List Bool} {es : List Ed} {j : Nat} {e : Ed} (he : es[j]? = some e) : (es.take (j + 1)).foldl step on = step ((es.take j).foldl step on) e := by
  obtain ⟨h, rfl⟩ := List.getElem?_eq_some_iff.1 he
  rw [List.take_succ_eq_append_getElem h, List.foldl_append]
  rfl

set_option maxHeartbeats 1600000 in
theorem at_walk (per : Int) (b0 b1 b2 b3 b4 b5 : Bool) (A : Option Addr) (n c : Nat) (es : List Ed) (w : World) (hE : Sl w w.heap.size 3 A (es.map Ed.row)) (hn : n = es.length) (hm : n ≤ 1000000)
    (hv : Valid per es) (hp1 : 64 ≤ per) (hp2 : per ≤ 4096) :
    Calls Try.prog 60 #[.agg #[.int .i64 per, .bool b0, .bool b1, .bool b2, .bool b3, .bool b4, .bool b5, .slice A n c]] w fun e w' =>
      ∃ v, e = .returned v ∧ w'.ownsRow w.heap.size 22 6 v per.toNat ((rowsF per [b0, b1, b2, b3, b4, b5] es).map boolRow).flatten ∧ Below w.heap.size w w' := by
  have HN := Lib.hid hn
  clear hn
  obtain ⟨i0, hi, hz0, hz1, hz2⟩ := info_parts Try.infoSix
  go_enter Try.func60, Try.ntmps60
  go_wp2
  go_loopw [3, 5, 6] (fun v x i wr => ∃ (k j : Nat) (c0 c1 c2 c3 c4 c5 : Bool), (k : Int) ≤ per ∧ j ≤ n ∧ i = .int .i64 k ∧ x = .int .i64 j ∧
      Hid ((es.take j).foldl step [b0, b1, b2, b3, b4, b5] = [c0, c1, c2, c3, c4, c5]) ∧ Hid (∀ i e, i < j → es[i]? = some e → e.t < k) ∧ Hid (∀ i e, j ≤ i → es[i]? = some e → (k : Int) ≤ e.t) ∧
      wr.ownsRow (w.heap.size + 2) 22 6 v k ((rowsTo [b0, b1, b2, b3, b4, b5] es k).map boolRow).flatten ∧ Blk wr (w.heap.size + 1) 22 #[.bool c0, .bool c1, .bool c2, .bool c3, .bool c4, .bool c5] ∧
      Blk wr w.heap.size 25 #[.int .i64 per, .bool b0, .bool b1, .bool b2, .bool b3, .bool b4, .bool b5, .slice A n c] ∧ Below w.heap.size w wr) (fun _ _ i _ => (per - intOf i).toNat)
  case atStart => exact ⟨0, 0, b0, b1, b2, b3, b4, b5, by omega, Nat.zero_le _, rfl, rfl, rfl, (fun i e h => by omega), (fun i e _ he => by
      obtain ⟨h1, rfl⟩ := List.getElem?_eq_some_iff.1 he
      exact (hv.ins i h1).1), World.ownsRow_nil _ _ _ _, Blk.new' (by simp), (Blk.new' rfl).alloc _, ((Below.refl _ _).alloc (Nat.le_refl _) _).alloc (by simp) _⟩
  case round =>
    obtain ⟨k, j, c0, c1, c2, c3, c4, c5, hk, hj, rfl, rfl, hst, hearly, hlate, hown, hblk, hbox, hb⟩ := hrel
    obtain ⟨wo, rfl⟩ : ∃ wo : World, wo = wr := ⟨_, rfl⟩
    have h0 := hbox.c8.1
    by_cases hlt : (k : Int) < per
    · go_wp2
      go_loopw [5] (fun x wr => ∃ (j : Nat) (c0 c1 c2 c3 c4 c5 : Bool), j ≤ n ∧ x = .int .i64 j ∧
          Hid ((es.take j).foldl step [b0, b1, b2, b3, b4, b5] = [c0, c1, c2, c3, c4, c5]) ∧ Hid (∀ i e, i < j → es[i]? = some e → e.t ≤ k) ∧ Hid (∀ i e, j ≤ i → es[i]? = some e → (k : Int) ≤ e.t) ∧
          wr.ownsRow (w.heap.size + 2) 22 6 u3 k ((rowsTo [b0, b1, b2, b3, b4, b5] es k).map boolRow).flatten ∧ Blk wr (w.heap.size + 1) 22 #[.bool c0, .bool c1, .bool c2, .bool c3, .bool c4, .bool c5] ∧
          Blk wr w.heap.size 25 #[.int .i64 per, .bool b0, .bool b1, .bool b2, .bool b3, .bool b4, .bool b5, .slice A n c] ∧ Below w.heap.size w wr) (fun x _ => n - (intOf x).toNat)
      case atStart => exact ⟨j, c0, c1, c2, c3, c4, c5, hj, rfl, hst, (fun i e h1 h2 => by have := hearly.out i e h1 h2; omega), hlate, hown, hblk, hbox, hb⟩
      case round =>
        clear hst hearly hlate hown hblk hbox hb h0
        obtain ⟨j, c0, c1, c2, c3, c4, c5, hj, rfl, hst, hearly, hlate, hown, hblk, hbox, hb⟩ := hrel
        have h7 := hbox.c8.2.2.2.2.2.2.2
        have hsz : w.heap.size + 1 < wr.heap.size := hblk.lt
        have k0 := hblk.c6.1
        have k1 := hblk.c6.2.1
        have k2 := hblk.c6.2.2.1
        have k3 := hblk.c6.2.2.2.1
        have k4 := hblk.c6.2.2.2.2.1
        have k5 := hblk.c6.2.2.2.2.2
        by_cases hgo : ∃ e, es[j]? = some e ∧ e.t = (k : Int)
        · obtain ⟨e, he, hek⟩ := hgo
          have hjl := (List.getElem?_eq_some_iff.1 he).1
          have hjn : j < n := by have := HN.out; omega
          obtain ⟨ad, p, rfl, hpa, hpb, e0, e1, e2⟩ := (hE.below hb).three (k := j) (x := .int .i64 (k : Int)) (y := .int .i64 e.s) (z := .bool e.o) (by rw [List.getElem?_map, he, ← hek]; rfl)
          have hpb1 : p.block < wr.heap.size := by omega
          obtain ⟨hin3, hin4⟩ : 0 ≤ e.s ∧ e.s ≤ 5 := by
            obtain ⟨h1, rfl⟩ := List.getElem?_eq_some_iff.1 he
            exact (hv.ins j h1).2.2
          obtain ⟨d0, d1, d2, d3, d4, d5, hs1, hs2, x, hx⟩ := six_set c0 c1 c2 c3 c4 c5 e.o e.s.toNat (by omega)
          have HE := Lib.hid he
          have HEK := Lib.hid hek
          have HS1 := Lib.hid hs1
          have HS2 := Lib.hid hs2
          clear hs1 hs2 he hek
          have hcx := hblk.cell e.s.toNat
          rw [hx] at hcx
          have hfx := hblk.frozen e.s.toNat
          clear hx
          go_wp2
          go_region
          all_goals go_wp2
          all_goals go_roundw
          case rel =>
            refine ⟨j + 1, d0, d1, d2, d3, d4, d5, by omega, by go_num, ?_, ?_, ?_, ?_, ?_, ?_, ?_⟩
            · show _ = _
              rw [fold_take HE.out, hst.out, ← HS2.out]; rfl
            · intro i x' h1 h2
              by_cases hij : i = j
              · subst hij
                rw [HE.out] at h2
                injection h2 with h2
                subst h2
                exact Int.le_of_eq HEK.out
              · exact hearly.out i x' (by omega) h2
            · exact fun i x' h1 h2 => hlate.out i x' (by omega) h2
            · exact ownsRow_setCell_below hown (Nat.lt_succ_self _) _
            · rw [← HS1.out]; exact hblk.set_ _ _
            · exact hbox.far (by simp) _
            · exact (hb.setCell (Nat.le_succ _) _).drew
          case measure => simp [intOf]; omega
        · have hrow : onAt [b0, b1, b2, b3, b4, b5] es (k : Int) = [c0, c1, c2, c3, c4, c5] := by
            rw [onAt_take es k j (fun i hi e he => hearly.out i e hi he) (fun i hi e he => by
              have h1 := hlate.out i e hi he
              by_cases hij : i = j
              · subst hij
                have : e.t ≠ (k : Int) := fun h => hgo ⟨e, he, h⟩
                omega
              · have hjl := (List.getElem?_eq_some_iff.1 he).1
                have h2 := hv.later (List.getElem?_eq_getElem (show j < es.length by omega)) i e (by omega) he
                have h3 := hlate.out j _ (Nat.le_refl _) (List.getElem?_eq_getElem (show j < es.length by omega))
                have : (es[j]'(by omega)).t ≠ (k : Int) := fun h => hgo ⟨_, List.getElem?_eq_getElem (by omega), h⟩
                omega), hst.out]
          have hlate2 : Hid (∀ i e, j ≤ i → es[i]? = some e → ((k + 1 : Nat) : Int) ≤ e.t) := fun i e hi he => by
            have h1 := hlate.out i e hi he
            by_cases hij : i = j
            · subst hij
              have : e.t ≠ (k : Int) := fun h => hgo ⟨e, he, h⟩
              omega
            · have hjl := (List.getElem?_eq_some_iff.1 he).1
              have h2 := hv.later (List.getElem?_eq_getElem (show j < es.length by omega)) i e (by omega) he
              have h3 := hlate.out j _ (Nat.le_refl _) (List.getElem?_eq_getElem (show j < es.length by omega))
              have : (es[j]'(by omega)).t ≠ (k : Int) := fun h => hgo ⟨_, List.getElem?_eq_getElem (by omega), h⟩
              omega
          have HR := Lib.hid hrow
          clear hrow
          have hcase : (∃ e, j < n ∧ es[j]? = some e ∧ (e.t == (k : Int)) = false) ∨ n ≤ j := by
            by_cases hjn : j < n
            · have hjl : j < es.length := by have := HN.out; omega
              refine .inl ⟨_, hjn, List.getElem?_eq_getElem hjl, ?_⟩
              rw [beq_eq_false_iff_ne]
              exact fun h => hgo ⟨_, List.getElem?_eq_getElem hjl, h⟩
            · exact .inr (by omega)
          clear hgo
          rcases hcase with ⟨e, hjn, he, hek⟩ | hjn
          · obtain ⟨ad, p, rfl, hpa, hpb, e0, e1, e2⟩ := (hE.below hb).three (k := j) (x := .int .i64 e.t) (y := .int .i64 e.s) (z := .bool e.o) (by rw [List.getElem?_map, he]; rfl)
            clear he
            go_wp2_with (at_builtin; refine wpList_append_own _ rfl _ _ 102 rfl (w.heap.size + 2) 22 i0 _ 6 6 Try.underlying102 hi hz0 hz1 hz2 rfl (by decide) _ _ _ rfl (hown.alloc _) ⟨wr.heap.size, 0, none⟩ 1 1 [.bool c0, .bool c1, .bool c2, .bool c3, .bool c4, .bool c5] rfl rfl (news_alloc _ [_, _, _, _, _, _] _ _ rfl) (by intro u hu; simp at hu; rcases hu with h | h | h | h | h | h <;> subst h <;> rfl) (by unfold maxLen; omega) (by omega) (by simp; omega) ?_)
            intro v' w1 hown' hgrow _
            have hbox1 := (hbox.alloc (.cells #[.bool c0, .bool c1, .bool c2, .bool c3, .bool c4, .bool c5] 22)).grown hgrow (own_ne hown (by omega))
            have hblk1 := (hblk.alloc (.cells #[.bool c0, .bool c1, .bool c2, .bool c3, .bool c4, .bool c5] 22)).grown hgrow (own_ne hown (by omega))
            have hb1 := (hb.alloc (by omega) (.cells #[.bool c0, .bool c1, .bool c2, .bool c3, .bool c4, .bool c5] 22)).grown hgrow (by simp; omega) (fun g hg => by have := own_ge hown g hg; omega)
            have hown1 : w1.ownsRow (w.heap.size + 2) 22 6 v' (k + 1) ((rowsTo [b0, b1, b2, b3, b4, b5] es (k + 1)).map boolRow).flatten := by
              rw [rowsTo_succ, HR.out]; simpa [boolRow, List.flatten_append] using hown'
            clear hown' hgrow hown hblk hbox hb k0 k1 k2 k3 k4 k5
            go_wp2
            go_roundw
            case rel =>
              refine ⟨k + 1, j, c0, c1, c2, c3, c4, c5, by omega, hj, by go_num, rfl, hst, fun i x h1 h2 => ?_, hlate2, hown1, hblk1, hbox1, hb1⟩
              have := hearly.out i x h1 h2
              omega
            case measure => simp [intOf]; omega
          · have hdj : decide (j < n) = false := by simpa using hjn
            clear hjn
            go_wp2_with (at_builtin; refine wpList_append_own _ rfl _ _ 102 rfl (w.heap.size + 2) 22 i0 _ 6 6 Try.underlying102 hi hz0 hz1 hz2 rfl (by decide) _ _ _ rfl (hown.alloc _) ⟨wr.heap.size, 0, none⟩ 1 1 [.bool c0, .bool c1, .bool c2, .bool c3, .bool c4, .bool c5] rfl rfl (news_alloc _ [_, _, _, _, _, _] _ _ rfl) (by intro u hu; simp at hu; rcases hu with h | h | h | h | h | h <;> subst h <;> rfl) (by unfold maxLen; omega) (by omega) (by simp; omega) ?_)
            intro v' w1 hown' hgrow _
            have hbox1 := (hbox.alloc (.cells #[.bool c0, .bool c1, .bool c2, .bool c3, .bool c4, .bool c5] 22)).grown hgrow (own_ne hown (by omega))
            have hblk1 := (hblk.alloc (.cells #[.bool c0, .bool c1, .bool c2, .bool c3, .bool c4, .bool c5] 22)).grown hgrow (own_ne hown (by omega))
            have hb1 := (hb.alloc (by omega) (.cells #[.bool c0, .bool c1, .bool c2, .bool c3, .bool c4, .bool c5] 22)).grown hgrow (by simp; omega) (fun g hg => by have := own_ge hown g hg; omega)
            have hown1 : w1.ownsRow (w.heap.size + 2) 22 6 v' (k + 1) ((rowsTo [b0, b1, b2, b3, b4, b5] es (k + 1)).map boolRow).flatten := by
              rw [rowsTo_succ, HR.out]; simpa [boolRow, List.flatten_append] using hown'
            clear hown' hgrow hown hblk hbox hb k0 k1 k2 k3 k4 k5
            go_wp2
            go_roundw
            case rel =>
              refine ⟨k + 1, j, c0, c1, c2, c3, c4, c5, by omega, hj, by go_num, rfl, hst, fun i x h1 h2 => ?_, hlate2, hown1, hblk1, hbox1, hb1⟩
              have := hearly.out i x h1 h2
              omega
            case measure => simp [intOf]; omega
    · go_wp2
      go_ret
      obtain rfl : k = per.toNat := by omega
      exact ⟨_, rfl, hown.rebase (by omega), hb⟩

end Go.Proofs.Ytgnojdiecgfeaaa
