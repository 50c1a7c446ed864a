/- The walks of the two checks of gate signals. The walks of the reference's Short and Error. The walk of the reference's High. The walk of High: the high counts, or the error. The walks of Draw and of the reference's Draw. The walks of Volts and of the reference's Volts. The walk of the reference's Volts. The walks of Vector and of the reference's Vector. The walks of the chapter's example and of 'awake'. The walks of Short and of the statement InverterChecks. The walks of AllOff (with slices.ContainsFunc and IndexFunc) and of the statement InverterReturns. -/
import Derived.Test.YtpfkiohknpeifaaGreatIgB
import Derived.Test.YtpfkiohknpeifaaGreatIgA
import Derived.RegionTactic
import Derived.StillTailTactics
namespace Go.Proofs.YtpfkiohknpeifaaGreat.I
open Go.RowKit


set_option maxHeartbeats 400000 in
theorem chk_walk (per : Int) (b0 b1 b2 b3 b4 b5 : Bool) (A : Option Addr) (n c : Nat) (es : List Ed) (w : World) (hE : Sl w w.heap.size 3 A (es.map Ed.row)) (hn : n = es.length) (hm : n ≤ 1000000) :
    Calls Tryz.prog 36 #[.agg #[.int .i64 per, .bool b0, .bool b1, .bool b2, .bool b3, .bool b4, .bool b5, .slice A n c]] w fun e w' => e = .returned (errV (chk per es)) ∧ Below w.heap.size w w' := by
  have HN := Lib.hid hn
  clear hn
  rcases Bool.eq_false_or_eq_true (perOk per) with hp | hp
  case inr =>
    have h3 := chk_range (es := es) hp
    have hor : per < 64 ∨ 4096 < per := by
      rw [Bool.eq_false_iff] at hp
      simp only [perOk, ne_eq, Bool.and_eq_true, decide_eq_true_eq] at hp
      omega
    have H3 := Lib.hid h3
    clear h3 hp
    rcases hor with hor | hor
    all_goals
      go_enter Tryz.func36, Tryz.ntmps36
      go_wp2
      go_ret
      exact ⟨by rw [H3.out]; rfl, (Below.refl _ _).alloc (Nat.le_refl _) _⟩
  have hp1 : 64 ≤ per ∧ per ≤ 4096 := by simpa [perOk] using hp
  obtain ⟨hp1, hp2⟩ := hp1
  have HP := Lib.hid hp
  clear hp
  go_enter Tryz.func36, Tryz.ntmps36
  go_wp2
  go_loopw [18] (fun i wr => ∃ k : Nat, k ≤ n ∧ i = .int .i64 k ∧ Hid (∀ j, j < k → good per es j = true) ∧ Below (w.heap.size + 1) (w.alloc (.cells #[.int .i64 per, .bool b0, .bool b1, .bool b2, .bool b3, .bool b4, .bool b5, .slice A n c] 51)) wr) (fun i _ => n - (intOf i).toNat)
  case atStart => exact ⟨0, Nat.zero_le _, rfl, fun j h => by omega, Below.refl _ _⟩
  case round =>
    obtain ⟨k, hk, rfl, hg, hb⟩ := hrel
    have h0 : wr.cell? ⟨w.heap.size, 0, none⟩ = some (.int .i64 per) := cell_below hb (by simp) (by omega)
    have h7 : wr.cell? ⟨w.heap.size, 7, none⟩ = some (.slice A n c) := cell_below hb (by simp) (by omega)
    have hsz : w.heap.size < wr.heap.size := by have := hb.size; simp at this; omega
    by_cases hlt : k < n
    · have hkl : k < es.length := by have := HN.out; omega
      obtain ⟨e, he⟩ : ∃ e, es[k]? = some e := ⟨_, List.getElem?_eq_getElem hkl⟩
      have hbx : Below w.heap.size w wr := ((Below.refl w.heap.size w).alloc (Nat.le_refl _) _).trans (hb.mono (by omega))
      have hE1 := hE.below hbx
      obtain ⟨ad, p, rfl, hpa, hpb, c0, c1, c2⟩ := hE1.three (k := k) (x := .int .i64 e.t) (y := .int .i64 e.s) (z := .bool e.o) (by rw [List.getElem?_map, he]; rfl)
      have hpb1 : p.block < wr.heap.size := by omega
      by_cases hk0 : 0 < k
      · obtain ⟨q, hq⟩ : ∃ q, es[k - 1]? = some q := ⟨_, List.getElem?_eq_getElem (by omega)⟩
        obtain ⟨ad', p', hae, hpa', hpb', d0, d1, d2⟩ := hE1.three (k := k - 1) (x := .int .i64 q.t) (y := .int .i64 q.s) (z := .bool q.o) (by rw [List.getElem?_map, hq]; rfl)
        injection hae with hae
        subst hae
        have hpb1' : p'.block < wr.heap.size := by omega
        have HG : Hid (good per es k = (edIn per e && edLt q e)) := by
          obtain ⟨j, rfl⟩ : ∃ j, k = j + 1 := ⟨k - 1, by omega⟩
          exact good_succ he hq
        clear he hq
        go_wp2
        all_goals first
          | (go_ret
             exact ⟨congrArg Ending.returned (congrArg errV (chk_bad HP.out hkl (by
                rw [HG.out, Bool.eq_false_iff]; intro hh
                simp only [edIn, edLt, Bool.and_eq_true, Bool.or_eq_true, decide_eq_true_eq] at hh
                omega)).symm), by repeat (first | exact hbx | refine Below.alloc ?_ (by first | omega | (simp; omega)) _)⟩)
          | (go_roundw
             case rel => exact ⟨k + 1, by omega, by go_num, (fun j hj => by
                by_cases hjk : j = k
                · subst hjk
                  rw [HG.out]
                  simp only [edIn, edLt, Bool.and_eq_true, Bool.or_eq_true, decide_eq_true_eq]
                  omega
                · exact hg.out j (by omega)), by repeat (first | exact hb | refine Below.alloc ?_ (by first | omega | (simp; omega)) _)⟩
             case measure => simp [intOf]; omega)
      · have HG : Hid (good per es k = edIn per e) := by
          obtain rfl : k = 0 := by omega
          exact good_zero he
        clear he
        go_wp2
        all_goals first
          | (go_ret
             exact ⟨congrArg Ending.returned (congrArg errV (chk_bad HP.out hkl (by
                rw [HG.out, Bool.eq_false_iff]; intro hh
                simp only [edIn, Bool.and_eq_true, decide_eq_true_eq] at hh
                omega)).symm), by repeat (first | exact hbx | refine Below.alloc ?_ (by first | omega | (simp; omega)) _)⟩)
          | (go_roundw
             case rel => exact ⟨k + 1, by omega, by go_num, (fun j hj => by
                by_cases hjk : j = k
                · subst hjk
                  rw [HG.out]
                  simp only [edIn, Bool.and_eq_true, decide_eq_true_eq]
                  omega
                · exact hg.out j (by omega)), by repeat (first | exact hb | refine Below.alloc ?_ (by first | omega | (simp; omega)) _)⟩
             case measure => simp [intOf]; omega)
    · go_wp2
      go_ret
      exact ⟨congrArg Ending.returned (errV_zero.symm.trans (congrArg errV (chk_good HP.out (fun i hi => hg.out i (by have := HN.out; omega))).symm)), ((Below.refl w.heap.size w).alloc (Nat.le_refl _) _).trans (hb.mono (by omega))⟩

set_option maxHeartbeats 400000 in
theorem rchk_walk (per : Int) (b0 b1 b2 b3 b4 b5 : Bool) (A : Option Addr) (n c : Nat) (es : List Ed) (w : World) (hE : Sl w w.heap.size 3 A (es.map Ed.row)) (hn : n = es.length) (hm : n ≤ 1000000) :
    Calls Tryz.prog 48 #[.agg #[.int .i64 per, .bool b0, .bool b1, .bool b2, .bool b3, .bool b4, .bool b5, .slice A n c]] w fun e w' => e = .returned (.int .i64 (chk per es)) ∧ Below w.heap.size w w' := by
  have HN := Lib.hid hn
  clear hn
  rcases Bool.eq_false_or_eq_true (perOk per) with hp | hp
  case inr =>
    have h3 := chk_range (es := es) hp
    have hor : per < 64 ∨ 4096 < per := by
      rw [Bool.eq_false_iff] at hp
      simp only [perOk, ne_eq, Bool.and_eq_true, decide_eq_true_eq] at hp
      omega
    have H3 := Lib.hid h3
    clear h3 hp
    rcases hor with hor | hor
    all_goals
      go_enter Tryz.func48, Tryz.ntmps48
      go_wp2
      go_ret
      exact ⟨by rw [H3.out]; rfl, (Below.refl _ _).alloc (Nat.le_refl _) _⟩
  have hp1 : 64 ≤ per ∧ per ≤ 4096 := by simpa [perOk] using hp
  obtain ⟨hp1, hp2⟩ := hp1
  have HP := Lib.hid hp
  clear hp
  go_enter Tryz.func48, Tryz.ntmps48
  go_wp2
  go_loopw [3] (fun i wr => ∃ k : Nat, k ≤ n ∧ i = .int .i64 k ∧ Hid (∀ j, j < k → good per es j = true) ∧ Below (w.heap.size + 1) (w.alloc (.cells #[.int .i64 per, .bool b0, .bool b1, .bool b2, .bool b3, .bool b4, .bool b5, .slice A n c] 51)) wr) (fun i _ => n - (intOf i).toNat)
  case atStart => exact ⟨0, Nat.zero_le _, rfl, fun j h => by omega, Below.refl _ _⟩
  case round =>
    obtain ⟨k, hk, rfl, hg, hb⟩ := hrel
    have h0 : wr.cell? ⟨w.heap.size, 0, none⟩ = some (.int .i64 per) := cell_below hb (by simp) (by omega)
    have h7 : wr.cell? ⟨w.heap.size, 7, none⟩ = some (.slice A n c) := cell_below hb (by simp) (by omega)
    have hsz : w.heap.size < wr.heap.size := by have := hb.size; simp at this; omega
    by_cases hlt : k < n
    · have hkl : k < es.length := by have := HN.out; omega
      obtain ⟨e, he⟩ : ∃ e, es[k]? = some e := ⟨_, List.getElem?_eq_getElem hkl⟩
      have hbx : Below w.heap.size w wr := ((Below.refl w.heap.size w).alloc (Nat.le_refl _) _).trans (hb.mono (by omega))
      have hE1 := hE.below hbx
      obtain ⟨ad, p, rfl, hpa, hpb, c0, c1, c2⟩ := hE1.three (k := k) (x := .int .i64 e.t) (y := .int .i64 e.s) (z := .bool e.o) (by rw [List.getElem?_map, he]; rfl)
      have hpb1 : p.block < wr.heap.size := by omega
      by_cases hk0 : 0 < k
      · obtain ⟨q, hq⟩ : ∃ q, es[k - 1]? = some q := ⟨_, List.getElem?_eq_getElem (by omega)⟩
        obtain ⟨ad', p', hae, hpa', hpb', d0, d1, d2⟩ := hE1.three (k := k - 1) (x := .int .i64 q.t) (y := .int .i64 q.s) (z := .bool q.o) (by rw [List.getElem?_map, hq]; rfl)
        injection hae with hae
        subst hae
        have hpb1' : p'.block < wr.heap.size := by omega
        have HG : Hid (good per es k = (edIn per e && edLt q e)) := by
          obtain ⟨j, rfl⟩ : ∃ j, k = j + 1 := ⟨k - 1, by omega⟩
          exact good_succ he hq
        clear he hq
        go_wp2
        all_goals first
          | (go_ret
             exact ⟨congrArg (fun x => Ending.returned (.int .i64 x)) ((chk_bad HP.out hkl (by
                rw [HG.out, Bool.eq_false_iff]; intro hh
                simp only [edIn, edLt, Bool.and_eq_true, Bool.or_eq_true, decide_eq_true_eq] at hh
                omega)).symm), by repeat (first | exact hbx | refine Below.alloc ?_ (by first | omega | (simp; omega)) _)⟩)
          | (go_roundw
             case rel => exact ⟨k + 1, by omega, by go_num, (fun j hj => by
                by_cases hjk : j = k
                · subst hjk
                  rw [HG.out]
                  simp only [edIn, edLt, Bool.and_eq_true, Bool.or_eq_true, decide_eq_true_eq]
                  omega
                · exact hg.out j (by omega)), by repeat (first | exact hb | refine Below.alloc ?_ (by first | omega | (simp; omega)) _)⟩
             case measure => simp [intOf]; omega)
      · have HG : Hid (good per es k = edIn per e) := by
          obtain rfl : k = 0 := by omega
          exact good_zero he
        clear he
        go_wp2
        all_goals first
          | (go_ret
             exact ⟨congrArg (fun x => Ending.returned (.int .i64 x)) ((chk_bad HP.out hkl (by
                rw [HG.out, Bool.eq_false_iff]; intro hh
                simp only [edIn, Bool.and_eq_true, decide_eq_true_eq] at hh
                omega)).symm), by repeat (first | exact hbx | refine Below.alloc ?_ (by first | omega | (simp; omega)) _)⟩)
          | (go_roundw
             case rel => exact ⟨k + 1, by omega, by go_num, (fun j hj => by
                by_cases hjk : j = k
                · subst hjk
                  rw [HG.out]
                  simp only [edIn, Bool.and_eq_true, decide_eq_true_eq]
                  omega
                · exact hg.out j (by omega)), by repeat (first | exact hb | refine Below.alloc ?_ (by first | omega | (simp; omega)) _)⟩
             case measure => simp [intOf]; omega)
    · go_wp2
      go_ret
      exact ⟨congrArg (fun x => Ending.returned (.int .i64 x)) (((chk_good HP.out (fun i hi => hg.out i (by have := HN.out; omega))).symm)), ((Below.refl w.heap.size w).alloc (Nat.le_refl _) _).trans (hb.mono (by omega))⟩

end Go.Proofs.YtpfkiohknpeifaaGreat.I

namespace Go.Proofs.YtpfkiohknpeifaaGreat.I
open Go.RowKit

theorem at_rows {per : Int} {on : List Bool} {es : List Ed} (h6 : on.length = 6) : ∀ r ∈ (rowsF per on es).map boolRow, r.length = 6 := by
  intro r hr
  obtain ⟨x, hx, rfl⟩ := List.mem_map.1 hr
  obtain ⟨t, _, rfl⟩ := List.mem_map.1 hx
  simp [boolRow, onAt_length, h6]
theorem rows_mem {per : Int} {on : List Bool} {es : List Ed} (h6 : on.length = 6) : ∀ x ∈ rowsF per on es, x.length = 6 := by
  intro x hx
  obtain ⟨t, _, rfl⟩ := List.mem_map.1 hx
  simp [onAt_length, h6]
theorem rows_len {per : Int} {on : List Bool} {es : List Ed} : (rowsF per on es).length = per.toNat := by simp [rowsF]

set_option maxRecDepth 100000 in
set_option maxHeartbeats 1600000 in
theorem rshort_walk (per : Int) (b0 b1 b2 b3 b4 b5 : Bool) (A : Option Addr) (n c : Nat) (es : List Ed) (w : World) (hE : Sl w w.heap.size 3 A (es.map Ed.row)) (hn : n = es.length) (hm : n ≤ 1000000) (hc : chk per es = 0) :
    Calls Tryz.prog 49 #[.agg #[.int .i64 per, .bool b0, .bool b1, .bool b2, .bool b3, .bool b4, .bool b5, .slice A n c]] w fun e w' => e = .returned (.bool (shortR per [b0, b1, b2, b3, b4, b5] es)) ∧ Below w.heap.size w w' := by
  obtain ⟨hp1, hp2, hv⟩ := chk_zero hc
  have HN := Lib.hid hn
  clear hn hc
  go_enter Tryz.func49, Tryz.ntmps49
  go_wp2_with fail
  refine (at_walk per b0 b1 b2 b3 b4 b5 A n c es _ ((hE.alloc (Nat.le_refl _) _).more (by simp)) HN.out hm hv hp1 hp2).mono ?_
  rintro e w1 ⟨v, rfl, hown, hb1⟩
  have hb := ((Below.refl w.heap.size w).alloc (Nat.le_refl _) (.cells #[.int .i64 per, .bool b0, .bool b1, .bool b2, .bool b3, .bool b4, .bool b5, .slice A n c] 51)).trans (hb1.mono (by simp))
  obtain ⟨rs, hrs⟩ : ∃ rs, rowsF per [b0, b1, b2, b3, b4, b5] es = rs := ⟨_, rfl⟩
  have hrows := at_rows (per := per) (es := es) (on := [b0, b1, b2, b3, b4, b5]) rfl
  have hmem := rows_mem (per := per) (es := es) (on := [b0, b1, b2, b3, b4, b5]) rfl
  have hlen := rows_len (per := per) (es := es) (on := [b0, b1, b2, b3, b4, b5])
  rw [hrs] at hown hrows hmem hlen
  rw [← hlen] at hown
  obtain ⟨A', c', rfl, hS, _⟩ := Sl.of_own hown hrows (by simp)
  have hl : rs.length ≤ 4096 := by omega
  have HM := Lib.hid hmem
  have HS : Hid (shortR per [b0, b1, b2, b3, b4, b5] es = rs.any shortB) := by show _ = _; unfold shortR; rw [hrs]
  clear hown hrows hmem hlen hrs hb1
  go_wp2
  go_loop [4] (fun i => ∃ k : Nat, k ≤ rs.length ∧ i = .int .i64 k ∧ Hid (∀ (j : Nat) x, j < k → rs[j]? = some x → shortB x = false)) (fun i => rs.length - (intOf i).toNat)
  case atStart => exact ⟨0, Nat.zero_le _, rfl, fun j x h => by omega⟩
  case round =>
    obtain ⟨k, hk, rfl, hg⟩ := hrel
    by_cases hlt : k < rs.length
    · obtain ⟨on, he⟩ : ∃ e, rs[k]? = some e := ⟨_, List.getElem?_eq_getElem hlt⟩
      obtain ⟨c0, c1, c2, c3, c4, c5, rfl⟩ := six_of (HM.out _ (List.mem_of_getElem? he))
      obtain ⟨ad, p, rfl, hpa, hpb, e0, e1, e2, e3, e4, e5⟩ := hS.six (k := k) (by rw [List.getElem?_map, he]; rfl)
      have HE := Lib.hid he
      clear he
      go_wp2
      go_loop [5] (fun i => i = .int .i64 0 ∨ (i = .int .i64 1 ∧ Hid ((c0 && c1) = false)) ∨ (i = .int .i64 2 ∧ Hid ((c0 && c1) = false ∧ (c2 && c3) = false)) ∨ (i = .int .i64 3 ∧ Hid ((c0 && c1) = false ∧ (c2 && c3) = false ∧ (c4 && c5) = false))) (fun i => 3 - (intOf i).toNat)
      case atStart => exact .inl rfl
      case round =>
        rcases hrel with rfl | ⟨rfl, hA⟩ | ⟨rfl, hA⟩ | ⟨rfl, hA⟩
        · rcases c0 <;> rcases c1
          all_goals
            go_wp2
            first
            | (go_ret
               exact ⟨congrArg (fun b => Ending.returned (.bool b)) (by rw [HS.out]; exact (any_hit HE.out (by simp [shortB_six])).symm), hb⟩)
            | (go_round
               case rel => exact .inr (.inl ⟨rfl, rfl⟩)
               case measure => simp [intOf])
        · rcases c2 <;> rcases c3
          all_goals
            go_wp2
            first
            | (go_ret
               exact ⟨congrArg (fun b => Ending.returned (.bool b)) (by rw [HS.out]; exact (any_hit HE.out (by simp [shortB_six])).symm), hb⟩)
            | (go_round
               case rel => exact .inr (.inr (.inl ⟨rfl, hA.out, rfl⟩))
               case measure => simp [intOf])
        · rcases c4 <;> rcases c5
          all_goals
            go_wp2
            first
            | (go_ret
               exact ⟨congrArg (fun b => Ending.returned (.bool b)) (by rw [HS.out]; exact (any_hit HE.out (by simp [shortB_six])).symm), hb⟩)
            | (go_round
               case rel => exact .inr (.inr (.inr ⟨rfl, hA.out.1, hA.out.2, rfl⟩))
               case measure => simp [intOf])
        · have HF : Hid (shortB [c0, c1, c2, c3, c4, c5] = false) := by
            show _ = _
            rw [shortB_six, hA.out.1, hA.out.2.1, hA.out.2.2]; rfl
          go_wp2
          go_round
          case rel =>
            refine ⟨k + 1, by omega, by go_num, fun j x hj hx => ?_⟩
            by_cases hjk : j = k
            · subst hjk
              rw [HE.out] at hx
              injection hx with hx
              subst hx
              exact HF.out
            · exact hg.out j x (by omega) hx
          case measure => simp [intOf]; omega
    · have HF : Hid (rs.any shortB = false) := any_miss fun j x hx => hg.out j x (by have := (List.getElem?_eq_some_iff.1 hx).1; omega) hx
      go_wp2
      go_ret
      exact ⟨by rw [HS.out, HF.out]; rfl, hb⟩

end Go.Proofs.YtpfkiohknpeifaaGreat.I

namespace Go.Proofs.YtpfkiohknpeifaaGreat.I
open Go.RowKit

theorem cnt_step {per : Int} {on : List Bool} {es : List Ed} {leg : Nat} {neg : Bool} {k : Nat} {x : List Bool} (hx : (rowsF per on es)[k]? = some x) :
    cnt (fun t => highB leg neg (onAt on es t)) 0 (k + 1) = cnt (fun t => highB leg neg (onAt on es t)) 0 k + addD leg neg x 1 := by
  have h1 : x = onAt on es (k : Int) := by
    unfold rowsF at hx
    rw [List.getElem?_map] at hx
    cases h : (List.range per.toNat)[k]? with
    | none => rw [h] at hx; cases hx
    | some t =>
      rw [h] at hx
      have : t = k := by
        have := List.getElem?_eq_some_iff.1 h
        obtain ⟨h2, h3⟩ := this
        rw [List.getElem_range] at h3
        exact h3.symm
      subst this
      simpa using hx.symm
  subst h1
  simp only [cnt, Int.zero_add]
  rfl

set_option maxRecDepth 100000 in
set_option maxHeartbeats 3200000 in
theorem rhigh_walk (per : Int) (b0 b1 b2 b3 b4 b5 : Bool) (A : Option Addr) (n c : Nat) (es : List Ed) (i0 i1 i2 : Int) (w : World) (hE : Sl w w.heap.size 3 A (es.map Ed.row)) (hn : n = es.length) (hm : n ≤ 1000000) (hc : chk per es = 0) :
    Calls Tryz.prog 106 #[.agg #[.int .i64 per, .bool b0, .bool b1, .bool b2, .bool b3, .bool b4, .bool b5, .slice A n c], .agg #[.int .i64 i0, .int .i64 i1, .int .i64 i2]] w fun e w' =>
      e = .returned (.agg #[.int .i64 (highR per [b0, b1, b2, b3, b4, b5] es 0 (decide (i0 < 0))), .int .i64 (highR per [b0, b1, b2, b3, b4, b5] es 1 (decide (i1 < 0))), .int .i64 (highR per [b0, b1, b2, b3, b4, b5] es 2 (decide (i2 < 0)))]) ∧ Below w.heap.size w w' := by
  obtain ⟨hp1, hp2, hv⟩ := chk_zero hc
  have HN := Lib.hid hn
  clear hn hc
  obtain ⟨W, hW⟩ : ∃ W : World, W = (((w.alloc (.cells #[.int .i64 per, .bool b0, .bool b1, .bool b2, .bool b3, .bool b4, .bool b5, .slice A n c] 51)).alloc (.cells #[.int .i64 i0, .int .i64 i1, .int .i64 i2] 67)).alloc (.cells #[.int .i64 0, .int .i64 0, .int .i64 0] 67)).alloc (.cells #[.int .i64 0, .int .i64 0, .int .i64 0] 67) := ⟨_, rfl⟩
  have hWs : W.heap.size = w.heap.size + 4 := by rw [hW]; simp
  have hbW : Below w.heap.size w W := by
    rw [hW]
    exact ((((Below.refl _ _).alloc (Nat.le_refl _) _).alloc (by simp) _).alloc (by simp; omega) _).alloc (by simp; omega) _
  have g1 : Blk W (w.heap.size + 1) 67 #[.int .i64 i0, .int .i64 i1, .int .i64 i2] := by
    rw [hW]; exact ((Blk.new' (by simp)).alloc _).alloc _
  have g2 : Blk W (w.heap.size + 1 + 1) 67 #[.int .i64 0, .int .i64 0, .int .i64 0] := by
    rw [hW]; exact (Blk.new' (by simp)).alloc _
  have g3 : Blk W (w.heap.size + 1 + 1 + 1) 67 #[.int .i64 0, .int .i64 0, .int .i64 0] := by
    rw [hW]; exact Blk.new' (by simp)
  have hat := hide (at_walk per b0 b1 b2 b3 b4 b5 A n c es W ((hE.below hbW).more hbW.size) HN.out hm hv hp1 hp2)
  subst hW
  go_enter Tryz.func106, Tryz.ntmps106
  go_wp2_with fail
  refine (unhide hat).mono ?_
  rintro e w1 ⟨v, rfl, hown, hb1⟩
  have hbw1 := hbW.trans (hb1.mono (by omega))
  have g13 := g1.below hb1 (by omega)
  have g23 := g2.below hb1 (by omega)
  have g33 := g3.below hb1 (by omega)
  obtain ⟨rs, hrs⟩ : ∃ rs, rowsF per [b0, b1, b2, b3, b4, b5] es = rs := ⟨_, rfl⟩
  have hrows := at_rows (per := per) (es := es) (on := [b0, b1, b2, b3, b4, b5]) rfl
  have hmem := rows_mem (per := per) (es := es) (on := [b0, b1, b2, b3, b4, b5]) rfl
  have hlen := rows_len (per := per) (es := es) (on := [b0, b1, b2, b3, b4, b5])
  rw [hrs] at hown hrows hmem hlen
  rw [← hlen] at hown
  obtain ⟨A', c', rfl, hS, hAb⟩ := Sl.of_own hown hrows (by simp)
  have hl : rs.length ≤ 4096 := by omega
  have HM := Lib.hid hmem
  have HL := Lib.hid hlen
  have HRS := Lib.hid hrs
  have hAb3 : ∀ ad, A' = some ad → some ad.block ≠ some (w.heap.size + 1 + 1 + 1) := fun ad h h2 => by
    have := hAb ad h
    injection h2 with h2
    omega
  have HAB := Lib.hid hAb3
  clear hown hrows hmem hlen hrs hb1 hAb hAb3 hat g1 g2 g3
  go_wp2
  go_loopw [7] (fun i wr => ∃ (k : Nat) (s0 s1 s2 : Int), k ≤ rs.length ∧ i = .int .i64 k ∧ Hid (cnt (fun t => highB 0 (decide (i0 < 0)) (onAt [b0, b1, b2, b3, b4, b5] es t)) 0 k = s0) ∧ Hid (cnt (fun t => highB 1 (decide (i1 < 0)) (onAt [b0, b1, b2, b3, b4, b5] es t)) 0 k = s1) ∧ Hid (cnt (fun t => highB 2 (decide (i2 < 0)) (onAt [b0, b1, b2, b3, b4, b5] es t)) 0 k = s2) ∧
      Blk wr (w.heap.size + 1 + 1 + 1) 67 #[.int .i64 s0, .int .i64 s1, .int .i64 s2] ∧ w1.grownBy wr (some (w.heap.size + 1 + 1 + 1)) ∧ Below w.heap.size w wr) (fun i _ => rs.length - (intOf i).toNat)
  case atStart => exact ⟨0, 0, 0, 0, Nat.zero_le _, rfl, rfl, rfl, rfl, g33, World.grownBy.refl _ _, hbw1⟩
  case round =>
    obtain ⟨k, s0, s1, s2, hk, rfl, hs0, hs1, hs2, hout, hgr, hb⟩ := hrel
    by_cases hlt : k < rs.length
    · obtain ⟨on, he⟩ : ∃ e, rs[k]? = some e := ⟨_, List.getElem?_eq_getElem hlt⟩
      obtain ⟨c0, c1, c2, c3, c4, c5, rfl⟩ := six_of (HM.out _ (List.mem_of_getElem? he))
      have hbd0 := cnt_nonneg (fun t => highB 0 (decide (i0 < 0)) (onAt [b0, b1, b2, b3, b4, b5] es t)) 0 k
      have hbd1 := cnt_nonneg (fun t => highB 1 (decide (i1 < 0)) (onAt [b0, b1, b2, b3, b4, b5] es t)) 0 k
      have hbd2 := cnt_nonneg (fun t => highB 2 (decide (i2 < 0)) (onAt [b0, b1, b2, b3, b4, b5] es t)) 0 k
      rw [hs0.out] at hbd0
      rw [hs1.out] at hbd1
      rw [hs2.out] at hbd2
      obtain ⟨hq1, hq2⟩ := hbd0
      obtain ⟨hq3, hq4⟩ := hbd1
      obtain ⟨hq5, hq6⟩ := hbd2
      have hn0 : Hid (cnt (fun t => highB 0 (decide (i0 < 0)) (onAt [b0, b1, b2, b3, b4, b5] es t)) 0 (k + 1) = s0 + addD 0 (decide (i0 < 0)) [c0, c1, c2, c3, c4, c5] 1) := by show _ = _; rw [cnt_step (by rw [HRS.out]; exact he), hs0.out]
      have hn1 : Hid (cnt (fun t => highB 1 (decide (i1 < 0)) (onAt [b0, b1, b2, b3, b4, b5] es t)) 0 (k + 1) = s1 + addD 1 (decide (i1 < 0)) [c0, c1, c2, c3, c4, c5] 1) := by show _ = _; rw [cnt_step (by rw [HRS.out]; exact he), hs1.out]
      have hn2 : Hid (cnt (fun t => highB 2 (decide (i2 < 0)) (onAt [b0, b1, b2, b3, b4, b5] es t)) 0 (k + 1) = s2 + addD 2 (decide (i2 < 0)) [c0, c1, c2, c3, c4, c5] 1) := by show _ = _; rw [cnt_step (by rw [HRS.out]; exact he), hs2.out]
      have HE := Lib.hid he
      clear he
      obtain ⟨wo, rfl⟩ : ∃ wo : World, wo = wr := ⟨_, rfl⟩
      go_wp2
      go_loopw [8] (fun i w4 => ((i = .int .i64 0 ∧ Blk w4 (w.heap.size + 1 + 1 + 1) 67 #[.int .i64 s0, .int .i64 s1, .int .i64 s2]) ∨ (i = .int .i64 1 ∧ Blk w4 (w.heap.size + 1 + 1 + 1) 67 #[.int .i64 (s0 + addD 0 (decide (i0 < 0)) [c0, c1, c2, c3, c4, c5] 1), .int .i64 s1, .int .i64 s2]) ∨ (i = .int .i64 2 ∧ Blk w4 (w.heap.size + 1 + 1 + 1) 67 #[.int .i64 (s0 + addD 0 (decide (i0 < 0)) [c0, c1, c2, c3, c4, c5] 1), .int .i64 (s1 + addD 1 (decide (i1 < 0)) [c0, c1, c2, c3, c4, c5] 1), .int .i64 s2]) ∨ (i = .int .i64 3 ∧ Blk w4 (w.heap.size + 1 + 1 + 1) 67 #[.int .i64 (s0 + addD 0 (decide (i0 < 0)) [c0, c1, c2, c3, c4, c5] 1), .int .i64 (s1 + addD 1 (decide (i1 < 0)) [c0, c1, c2, c3, c4, c5] 1), .int .i64 (s2 + addD 2 (decide (i2 < 0)) [c0, c1, c2, c3, c4, c5] 1)])) ∧
          w1.grownBy w4 (some (w.heap.size + 1 + 1 + 1)) ∧ Below w.heap.size w w4) (fun i _ => 3 - (intOf i).toNat)
      case atStart => exact ⟨.inl ⟨rfl, hout⟩, hgr, hb⟩
      case round =>
          clear hout hgr hb
          obtain ⟨hd, hgr2, hbb⟩ := hrel
          obtain ⟨ad, p, rfl, hpa, hpb, e0, e1, e2, e3, e4, e5⟩ := (hS.grown hgr2 (Nat.le_refl _) HAB.out).six (k := k) (by rw [List.getElem?_map, HE.out]; rfl)
          obtain ⟨u0, u1, u2⟩ := (g13.grown hgr2 (by simp)).c3
          rcases hd with ⟨rfl, ho⟩ | ⟨rfl, ho⟩ | ⟨rfl, ho⟩ | ⟨rfl, ho⟩
          · have hx : (c0 = true) ∨ (c0 = false ∧ c1 = false ∧ i0 < 0) ∨ (c0 = false ∧ c1 = true) ∨ (c0 = false ∧ c1 = false ∧ ¬ i0 < 0) := by
              by_cases hx : i0 < 0 <;> cases c0 <;> cases c1 <;> simp [hx]
            obtain ⟨z0, z1, z2⟩ := ho.c3
            have fz := ho.frozen 0
            rcases hx with rfl | ⟨rfl, rfl, hneg⟩ | ⟨rfl, rfl⟩ | ⟨rfl, rfl, hneg⟩
            · have ha : addD 0 (decide (i0 < 0)) [true, c1, c2, c3, c4, c5] 1 = 1 := addD_yes (by simp [highB])
              have HA := Lib.hid ha
              clear ha
              go_wp2
              go_region
              all_goals go_wp2
              all_goals go_roundw
              case rel => exact ⟨.inr (.inl ⟨rfl, by rw [HA.out]; exact ho.set_ 0 _⟩), grown_drew (grown_setCell hgr2 (.inl rfl) _), (hbb.setCell (by simp; omega) _).drew⟩
              case measure => simp [intOf]
            · have ha : addD 0 (decide (i0 < 0)) [false, false, c2, c3, c4, c5] 1 = 1 := addD_yes (by simp [highB, hneg])
              have HA := Lib.hid ha
              clear ha
              go_wp2
              go_region
              all_goals go_wp2
              all_goals go_roundw
              case rel => exact ⟨.inr (.inl ⟨rfl, by rw [HA.out]; exact ho.set_ 0 _⟩), grown_drew (grown_setCell hgr2 (.inl rfl) _), (hbb.setCell (by simp; omega) _).drew⟩
              case measure => simp [intOf]
            · have ha : addD 0 (decide (i0 < 0)) [false, true, c2, c3, c4, c5] 1 = 0 := addD_no (by simp [highB])
              have HA := Lib.hid ha
              clear ha
              go_wp2
              go_region
              all_goals go_wp2
              all_goals go_roundw
              case rel => exact ⟨.inr (.inl ⟨rfl, by rw [HA.out]; simpa using ho.drew⟩), grown_drew hgr2, hbb.drew⟩
              case measure => simp [intOf]
            · have ha : addD 0 (decide (i0 < 0)) [false, false, c2, c3, c4, c5] 1 = 0 := addD_no (by simp [highB, hneg])
              have HA := Lib.hid ha
              clear ha
              go_wp2
              go_region
              all_goals go_wp2
              all_goals go_roundw
              case rel => exact ⟨.inr (.inl ⟨rfl, by rw [HA.out]; simpa using ho.drew⟩), grown_drew hgr2, hbb.drew⟩
              case measure => simp [intOf]
          · have hx : (c2 = true) ∨ (c2 = false ∧ c3 = false ∧ i1 < 0) ∨ (c2 = false ∧ c3 = true) ∨ (c2 = false ∧ c3 = false ∧ ¬ i1 < 0) := by
              by_cases hx : i1 < 0 <;> cases c2 <;> cases c3 <;> simp [hx]
            obtain ⟨z0, z1, z2⟩ := ho.c3
            have fz := ho.frozen 1
            rcases hx with rfl | ⟨rfl, rfl, hneg⟩ | ⟨rfl, rfl⟩ | ⟨rfl, rfl, hneg⟩
            · have ha : addD 1 (decide (i1 < 0)) [c0, c1, true, c3, c4, c5] 1 = 1 := addD_yes (by simp [highB])
              have HA := Lib.hid ha
              clear ha
              go_wp2
              go_region
              all_goals go_wp2
              all_goals go_roundw
              case rel => exact ⟨.inr (.inr (.inl ⟨rfl, by rw [HA.out]; exact ho.set_ 1 _⟩)), grown_drew (grown_setCell hgr2 (.inl rfl) _), (hbb.setCell (by simp; omega) _).drew⟩
              case measure => simp [intOf]
            · have ha : addD 1 (decide (i1 < 0)) [c0, c1, false, false, c4, c5] 1 = 1 := addD_yes (by simp [highB, hneg])
              have HA := Lib.hid ha
              clear ha
              go_wp2
              go_region
              all_goals go_wp2
              all_goals go_roundw
              case rel => exact ⟨.inr (.inr (.inl ⟨rfl, by rw [HA.out]; exact ho.set_ 1 _⟩)), grown_drew (grown_setCell hgr2 (.inl rfl) _), (hbb.setCell (by simp; omega) _).drew⟩
              case measure => simp [intOf]
            · have ha : addD 1 (decide (i1 < 0)) [c0, c1, false, true, c4, c5] 1 = 0 := addD_no (by simp [highB])
              have HA := Lib.hid ha
              clear ha
              go_wp2
              go_region
              all_goals go_wp2
              all_goals go_roundw
              case rel => exact ⟨.inr (.inr (.inl ⟨rfl, by rw [HA.out]; simpa using ho.drew⟩)), grown_drew hgr2, hbb.drew⟩
              case measure => simp [intOf]
            · have ha : addD 1 (decide (i1 < 0)) [c0, c1, false, false, c4, c5] 1 = 0 := addD_no (by simp [highB, hneg])
              have HA := Lib.hid ha
              clear ha
              go_wp2
              go_region
              all_goals go_wp2
              all_goals go_roundw
              case rel => exact ⟨.inr (.inr (.inl ⟨rfl, by rw [HA.out]; simpa using ho.drew⟩)), grown_drew hgr2, hbb.drew⟩
              case measure => simp [intOf]
          · have hx : (c4 = true) ∨ (c4 = false ∧ c5 = false ∧ i2 < 0) ∨ (c4 = false ∧ c5 = true) ∨ (c4 = false ∧ c5 = false ∧ ¬ i2 < 0) := by
              by_cases hx : i2 < 0 <;> cases c4 <;> cases c5 <;> simp [hx]
            obtain ⟨z0, z1, z2⟩ := ho.c3
            have fz := ho.frozen 2
            rcases hx with rfl | ⟨rfl, rfl, hneg⟩ | ⟨rfl, rfl⟩ | ⟨rfl, rfl, hneg⟩
            · have ha : addD 2 (decide (i2 < 0)) [c0, c1, c2, c3, true, c5] 1 = 1 := addD_yes (by simp [highB])
              have HA := Lib.hid ha
              clear ha
              go_wp2
              go_region
              all_goals go_wp2
              all_goals go_roundw
              case rel => exact ⟨.inr (.inr (.inr ⟨rfl, by rw [HA.out]; exact ho.set_ 2 _⟩)), grown_drew (grown_setCell hgr2 (.inl rfl) _), (hbb.setCell (by simp; omega) _).drew⟩
              case measure => simp [intOf]
            · have ha : addD 2 (decide (i2 < 0)) [c0, c1, c2, c3, false, false] 1 = 1 := addD_yes (by simp [highB, hneg])
              have HA := Lib.hid ha
              clear ha
              go_wp2
              go_region
              all_goals go_wp2
              all_goals go_roundw
              case rel => exact ⟨.inr (.inr (.inr ⟨rfl, by rw [HA.out]; exact ho.set_ 2 _⟩)), grown_drew (grown_setCell hgr2 (.inl rfl) _), (hbb.setCell (by simp; omega) _).drew⟩
              case measure => simp [intOf]
            · have ha : addD 2 (decide (i2 < 0)) [c0, c1, c2, c3, false, true] 1 = 0 := addD_no (by simp [highB])
              have HA := Lib.hid ha
              clear ha
              go_wp2
              go_region
              all_goals go_wp2
              all_goals go_roundw
              case rel => exact ⟨.inr (.inr (.inr ⟨rfl, by rw [HA.out]; simpa using ho.drew⟩)), grown_drew hgr2, hbb.drew⟩
              case measure => simp [intOf]
            · have ha : addD 2 (decide (i2 < 0)) [c0, c1, c2, c3, false, false] 1 = 0 := addD_no (by simp [highB, hneg])
              have HA := Lib.hid ha
              clear ha
              go_wp2
              go_region
              all_goals go_wp2
              all_goals go_roundw
              case rel => exact ⟨.inr (.inr (.inr ⟨rfl, by rw [HA.out]; simpa using ho.drew⟩)), grown_drew hgr2, hbb.drew⟩
              case measure => simp [intOf]
          · go_wp2
            go_roundw
            case rel => exact ⟨k + 1, _, _, _, by omega, by go_num, hn0, hn1, hn2, ho, hgr2, hbb⟩
            case measure => simp [intOf]; omega
    · have hks : k = per.toNat := by have := HL.out; omega
      have f2a := (g23.grown hgr (by simp))
      obtain ⟨y0, y1, y2⟩ := f2a.c3
      obtain ⟨z0, z1, z2⟩ := hout.c3
      have f0 := f2a.frozen 0
      have f1 := f2a.frozen 1
      have f2 := f2a.frozen 2
      have hr0 : Hid (highR per [b0, b1, b2, b3, b4, b5] es 0 (decide (i0 < 0)) = s0) := by show _ = _; unfold highR; rw [← hs0.out, hks]
      have hr1 : Hid (highR per [b0, b1, b2, b3, b4, b5] es 1 (decide (i1 < 0)) = s1) := by show _ = _; unfold highR; rw [← hs1.out, hks]
      have hr2 : Hid (highR per [b0, b1, b2, b3, b4, b5] es 2 (decide (i2 < 0)) = s2) := by show _ = _; unfold highR; rw [← hs2.out, hks]
      clear hks
      go_wp2
      refine bodyPost_ret (ret_cell rfl rfl (load_ints3 (((f2a.set_ 0 _).set_ 1 _).set_ 2 _))) rfl ⟨?_, ?_⟩
      · rw [hr0.out, hr1.out, hr2.out]
      · exact ((hb.setCell (by simp; omega) _).setCell (by simp; omega) _).setCell (by simp; omega) _

end Go.Proofs.YtpfkiohknpeifaaGreat.I

namespace Go.Proofs.YtpfkiohknpeifaaGreat.I
open Go.RowKit

theorem spans_rows {per : Int} {on : List Bool} {es : List Ed} (hv : Valid per es) (hp : 64 ≤ per) (h6 : on.length = 6) : ∀ r ∈ (spansOf per on es).map spanRow, r.length = 7 := by
  intro r hr
  obtain ⟨x, hx, rfl⟩ := List.mem_map.1 hr
  simp [spanRow, (spans_mem hv hp x hx).2, h6]

set_option maxRecDepth 100000 in
set_option maxHeartbeats 3200000 in
theorem high_walk (per : Int) (b0 b1 b2 b3 b4 b5 : Bool) (A : Option Addr) (n c : Nat) (es : List Ed) (i0 i1 i2 : Int) (w : World) (hE : Sl w w.heap.size 3 A (es.map Ed.row)) (hn : n = es.length) (hm : n ≤ 1000000) :
    Calls Tryz.prog 129 #[.agg #[.int .i64 per, .bool b0, .bool b1, .bool b2, .bool b3, .bool b4, .bool b5, .slice A n c], .agg #[.int .i64 i0, .int .i64 i1, .int .i64 i2]] w fun e w' =>
      e = .returned (.tuple #[.agg #[.int .i64 (hgh per [b0, b1, b2, b3, b4, b5] es 0 i0), .int .i64 (hgh per [b0, b1, b2, b3, b4, b5] es 1 i1), .int .i64 (hgh per [b0, b1, b2, b3, b4, b5] es 2 i2)], errV (err per [b0, b1, b2, b3, b4, b5] es)]) ∧ Below w.heap.size w w' := by
  obtain ⟨W, hW⟩ : ∃ W : World, W = (((w.alloc (.cells #[.int .i64 per, .bool b0, .bool b1, .bool b2, .bool b3, .bool b4, .bool b5, .slice A n c] 51)).alloc (.cells #[.int .i64 i0, .int .i64 i1, .int .i64 i2] 67)).alloc (.cells #[.int .i64 0, .int .i64 0, .int .i64 0] 67)).alloc (.cells #[.int .i64 0, .int .i64 0, .int .i64 0] 67) := ⟨_, rfl⟩
  have hWs : W.heap.size = w.heap.size + 4 := by rw [hW]; simp
  have hbW : Below w.heap.size w W := by
    rw [hW]
    exact ((((Below.refl _ _).alloc (Nat.le_refl _) _).alloc (by simp) _).alloc (by simp; omega) _).alloc (by simp; omega) _
  have g0 : Blk W w.heap.size 51 #[.int .i64 per, .bool b0, .bool b1, .bool b2, .bool b3, .bool b4, .bool b5, .slice A n c] := by
    rw [hW]; exact (((Blk.new w _ _).alloc _).alloc _).alloc _
  have g1 : Blk W (w.heap.size + 1) 67 #[.int .i64 i0, .int .i64 i1, .int .i64 i2] := by
    rw [hW]; exact ((Blk.new' (by simp)).alloc _).alloc _
  have g2 : Blk W (w.heap.size + 1 + 1) 67 #[.int .i64 0, .int .i64 0, .int .i64 0] := by
    rw [hW]; exact (Blk.new' (by simp)).alloc _
  have g3 : Blk W (w.heap.size + 1 + 1 + 1) 67 #[.int .i64 0, .int .i64 0, .int .i64 0] := by
    rw [hW]; exact Blk.new' (by simp)
  have hck := chk_walk per b0 b1 b2 b3 b4 b5 A n c es W ((hE.below hbW).more (by omega)) hn hm
  by_cases hc0 : chk per es = 0
  case neg =>
    have hck2 : Calls Tryz.prog 36 #[.agg #[.int .i64 per, .bool b0, .bool b1, .bool b2, .bool b3, .bool b4, .bool b5, .slice A n c]] W fun e w' => e = .returned (.iface 87 (.int .i64 (chk per es))) ∧ Below W.heap.size W w' := by
      rw [errV_ne hc0] at hck; exact hck
    have HC := hide hck2
    have H0 := Lib.hid hc0
    have HN := Lib.hid hn
    clear hck hck2 hc0 hn
    subst hW
    go_enter Tryz.func129, Tryz.ntmps129
    go_wp2_with fail
    refine (unhide HC).mono ?_
    rintro e w1 ⟨rfl, hb1⟩
    obtain ⟨a0, a1, a2⟩ := (g2.below hb1 (by omega)).c3
    obtain ⟨d0, d1, d2⟩ := (g3.below hb1 (by omega)).c3
    have f0 := (g2.below hb1 (by omega)).frozen 0
    have f1 := (g2.below hb1 (by omega)).frozen 1
    have f2 := (g2.below hb1 (by omega)).frozen 2
    go_wp2
    refine bodyPost_ret (ret_cell_tmp rfl rfl (load_ints3 ((((g2.below hb1 (by omega)).set_ 0 _).set_ 1 _).set_ 2 _))) rfl ⟨?_, ?_⟩
    · rw [hgh_err (by rw [err_chk H0.out]; exact H0.out), hgh_err (by rw [err_chk H0.out]; exact H0.out), hgh_err (by rw [err_chk H0.out]; exact H0.out), err_chk H0.out, errV_ne H0.out]
      rfl
    · exact (((hbW.trans (hb1.mono (by omega))).setCell (by simp; omega) _).setCell (by simp; omega) _).setCell (by simp; omega) _
  case pos =>
    obtain ⟨hp1, hp2, hv⟩ := chk_zero hc0
    have hck2 : Calls Tryz.prog 36 #[.agg #[.int .i64 per, .bool b0, .bool b1, .bool b2, .bool b3, .bool b4, .bool b5, .slice A n c]] W fun e w' => e = .returned .nilIface ∧ Below W.heap.size W w' := by
      rw [hc0, errV_zero] at hck; exact hck
    have HC := hide hck2
    have H0 := Lib.hid hc0
    have HN := Lib.hid hn
    clear hck hck2 hc0 hn
    subst hW
    go_enter Tryz.func129, Tryz.ntmps129
    go_wp2_with fail
    refine (unhide HC).mono ?_
    rintro e w1 ⟨rfl, hb1⟩
    have hbw1 := hbW.trans (hb1.mono (by omega))
    have g01 := g0.below hb1 (by omega)
    have g11 := g1.below hb1 (by omega)
    have g21 := g2.below hb1 (by omega)
    have g31 := g3.below hb1 (by omega)
    have hs1 := hb1.size
    rw [hWs] at hs1
    clear g0 g1 g2 g3 hb1 HC
    obtain ⟨x0, x1, x2, x3, x4, x5, x6, x7⟩ := g01.c8
    obtain ⟨sp, hsp⟩ : ∃ sp, spansOf per [b0, b1, b2, b3, b4, b5] es = sp := ⟨_, rfl⟩
    have hrows := spans_rows (on := [b0, b1, b2, b3, b4, b5]) hv hp1 rfl
    have hmem := spans_mem (on := [b0, b1, b2, b3, b4, b5]) hv hp1
    have hsw := spans_walk per b0 b1 b2 b3 b4 b5 A n c es w1 ((hE.below hbw1).more hbw1.size) HN.out hm hv hp1 hp2
    rw [hsp] at hrows hmem hsw
    have HSW := hide hsw
    have HSP := Lib.hid hsp
    have HR := Lib.hid hrows
    have HM := Lib.hid hmem
    clear hsw hsp hrows hmem
    go_wp2_with fail
    refine (unhide HSW).mono ?_
    rintro e w2 ⟨v, rfl, hown, hb2⟩
    obtain ⟨A', c', rfl, hS, hAb⟩ := Sl.of_own hown HR.out (by simp)
    have hsplen : sp.length ≤ 1000001 := by
      have h1 := spans_length (per := per) (on := [b0, b1, b2, b3, b4, b5]) (es := es)
      rw [HSP.out] at h1
      have := HN.out
      omega
    have hbw2 := hbw1.trans (hb2.mono hbw1.size)
    have g12 := g11.below hb2 (by omega)
    have g22 := g21.below hb2 (by omega)
    have g32 := g31.below hb2 (by omega)
    have hs2 := hb2.size
    clear hown HSW g11 g21 g31 x0 x1 x2 x3 x4 x5 x6 x7
    have hshw := shorted_walk A' sp.length c' sp w2 hS rfl hsplen (fun x hx => (HM.out x hx).2)
    obtain ⟨sb, hsb⟩ : ∃ sb, (sp.any fun x => shortB x.2) = sb := ⟨_, rfl⟩
    rw [hsb] at hshw
    have hserr : shortR per [b0, b1, b2, b3, b4, b5] es = sb := by rw [← short_eq H0.out, HSP.out]; exact hsb
    have HSE := Lib.hid hserr
    have HSH := hide hshw
    have ix0 := index3_0 (.int .i64 i0) (.int .i64 i1) (.int .i64 i2)
    have ix1 := index3_1 (.int .i64 i0) (.int .i64 i1) (.int .i64 i2)
    have ix2 := index3_2 (.int .i64 i0) (.int .i64 i1) (.int .i64 i2)
    clear hshw hsb hserr
    go_wp2_with fail
    refine (unhide HSH).mono ?_
    rintro e w3 ⟨rfl, hb3⟩
    have hbw3 := hbw2.trans (hb3.mono (by omega))
    have g03 : Blk w3 w.heap.size 51 #[.int .i64 per, .bool b0, .bool b1, .bool b2, .bool b3, .bool b4, .bool b5, .slice A n c] := (g01.below hb2 (by omega)).below hb3 (by omega)
    have g13 := g12.below hb3 (by omega)
    have g23 := g22.below hb3 (by omega)
    have g33 := g32.below hb3 (by omega)
    have hs3 := hb3.size
    have hS3 := (hS.below hb3).more hs3
    clear HSH g12 g22 g32 hS hb2 hb3 g01
    obtain ⟨y0, y1, y2⟩ := g23.c3
    obtain ⟨z0, z1, z2⟩ := g33.c3
    have f0 := g23.frozen 0
    have f1 := g23.frozen 1
    have f2 := g23.frozen 2
    cases sb
    case true =>
      have herr : err per [b0, b1, b2, b3, b4, b5] es = 15 := err_short H0.out HSE.out
      have HER := Lib.hid herr
      clear herr
      go_wp2
      refine bodyPost_ret (ret_cell_tmp rfl rfl (load_ints3 (((g23.set_ 0 _).set_ 1 _).set_ 2 _))) rfl ⟨?_, ?_⟩
      · rw [hgh_err (by rw [HER.out]; decide), hgh_err (by rw [HER.out]; decide), hgh_err (by rw [HER.out]; decide), HER.out]
        rfl
      · exact ((hbw3.setCell (by simp; omega) _).setCell (by simp; omega) _).setCell (by simp; omega) _
    case false =>
      have herr : err per [b0, b1, b2, b3, b4, b5] es = 0 := err_zero H0.out HSE.out
      have HER := Lib.hid herr
      clear herr y0 y1 y2 z0 z1 z2 f0 f1 f2
      have hAb3 : ∀ ad, A' = some ad → some ad.block ≠ some (w.heap.size + 1 + 1 + 1) := fun ad h h2 => by
        have := hAb ad h
        injection h2 with h2
        omega
      have HAB := Lib.hid hAb3
      clear hAb hAb3
      go_wp2
      go_loopw [27] (fun i wr => ∃ (k : Nat) (s0 s1 s2 : Int), k ≤ sp.length ∧ i = .int .i64 k ∧ Hid (sumF (highB 0 (decide (i0 < 0))) (sp.take k) = s0) ∧ Hid (sumF (highB 1 (decide (i1 < 0))) (sp.take k) = s1) ∧ Hid (sumF (highB 2 (decide (i2 < 0))) (sp.take k) = s2) ∧
          Blk wr (w.heap.size + 1 + 1 + 1) 67 #[.int .i64 s0, .int .i64 s1, .int .i64 s2] ∧ w3.grownBy wr (some (w.heap.size + 1 + 1 + 1)) ∧ Below w.heap.size w wr) (fun i _ => sp.length - (intOf i).toNat)
      case atStart => exact ⟨0, 0, 0, 0, Nat.zero_le _, rfl, rfl, rfl, rfl, g33, World.grownBy.refl _ _, hbw3⟩
      case round =>
        obtain ⟨k, s0, s1, s2, hk, rfl, hs0, hs1, hs2, hout, hgr, hb⟩ := hrel
        obtain ⟨z0, z1, z2⟩ := hout.c3
        have hsz : w.heap.size + 1 + 1 + 1 < wr.heap.size := hout.lt
        have hsz1 : w.heap.size + 1 < wr.heap.size := by omega
        have g1r := g13.grown hgr (by simp)
        obtain ⟨u0, u1, u2⟩ := g1r.c3
        by_cases hlt : k < sp.length
        · obtain ⟨⟨q, on⟩, he⟩ : ∃ e, sp[k]? = some e := ⟨_, List.getElem?_eq_getElem hlt⟩
          obtain ⟨c0, c1, c2, c3, c4, c5, hon⟩ := six_of (HM.out _ (List.mem_of_getElem? he)).2
          simp only at hon
          subst hon
          have hSr := hS3.grown hgr (Nat.le_refl _) HAB.out
          obtain ⟨ad, p, rfl, hpa, hpb, e0, e1, e2, e3, e4, e5, e6⟩ := hSr.seven (k := k) (by rw [List.getElem?_map, he]; rfl)
          have hpb1 : p.block < wr.heap.size := by have := hgr.size; omega
          have hsp' := HSP.out
          have hbd0 := sum_bd (on := [b0, b1, b2, b3, b4, b5]) H0.out (highB 0 (decide (i0 < 0))) (k := k) (x := (q, [c0, c1, c2, c3, c4, c5])) (by rw [hsp']; exact he)
          have hbd1 := sum_bd (on := [b0, b1, b2, b3, b4, b5]) H0.out (highB 1 (decide (i1 < 0))) (k := k) (x := (q, [c0, c1, c2, c3, c4, c5])) (by rw [hsp']; exact he)
          have hbd2 := sum_bd (on := [b0, b1, b2, b3, b4, b5]) H0.out (highB 2 (decide (i2 < 0))) (k := k) (x := (q, [c0, c1, c2, c3, c4, c5])) (by rw [hsp']; exact he)
          rw [hsp', hs0.out] at hbd0
          rw [hsp', hs1.out] at hbd1
          rw [hsp', hs2.out] at hbd2
          simp only at hbd0 hbd1 hbd2
          obtain ⟨hq0, hq1, hq2⟩ := hbd0
          obtain ⟨_, hq3, hq4⟩ := hbd1
          obtain ⟨_, hq5, hq6⟩ := hbd2
          have hn0 : Hid (sumF (highB 0 (decide (i0 < 0))) (sp.take (k + 1)) = s0 + addD 0 (decide (i0 < 0)) [c0, c1, c2, c3, c4, c5] q) := by show _ = _; rw [sumF_add he, hs0.out]
          have hn1 : Hid (sumF (highB 1 (decide (i1 < 0))) (sp.take (k + 1)) = s1 + addD 1 (decide (i1 < 0)) [c0, c1, c2, c3, c4, c5] q) := by show _ = _; rw [sumF_add he, hs1.out]
          have hn2 : Hid (sumF (highB 2 (decide (i2 < 0))) (sp.take (k + 1)) = s2 + addD 2 (decide (i2 < 0)) [c0, c1, c2, c3, c4, c5] q) := by show _ = _; rw [sumF_add he, hs2.out]
          clear hsp' he hSr
          obtain ⟨wo, rfl⟩ : ∃ wo : World, wo = wr := ⟨_, rfl⟩
          go_wp2
          clear e0 e1 e2 e3 e4 e5 e6 z0 z1 z2 u0 u1 u2
          go_loopw [32] (fun i w4 => ((i = .int .i64 0 ∧ Blk w4 (w.heap.size + 1 + 1 + 1) 67 #[.int .i64 s0, .int .i64 s1, .int .i64 s2]) ∨ (i = .int .i64 1 ∧ Blk w4 (w.heap.size + 1 + 1 + 1) 67 #[.int .i64 (s0 + addD 0 (decide (i0 < 0)) [c0, c1, c2, c3, c4, c5] q), .int .i64 s1, .int .i64 s2]) ∨ (i = .int .i64 2 ∧ Blk w4 (w.heap.size + 1 + 1 + 1) 67 #[.int .i64 (s0 + addD 0 (decide (i0 < 0)) [c0, c1, c2, c3, c4, c5] q), .int .i64 (s1 + addD 1 (decide (i1 < 0)) [c0, c1, c2, c3, c4, c5] q), .int .i64 s2]) ∨ (i = .int .i64 3 ∧ Blk w4 (w.heap.size + 1 + 1 + 1) 67 #[.int .i64 (s0 + addD 0 (decide (i0 < 0)) [c0, c1, c2, c3, c4, c5] q), .int .i64 (s1 + addD 1 (decide (i1 < 0)) [c0, c1, c2, c3, c4, c5] q), .int .i64 (s2 + addD 2 (decide (i2 < 0)) [c0, c1, c2, c3, c4, c5] q)])) ∧
              Blk w4 wo.heap.size 172 #[.int .i64 q, .bool c0, .bool c1, .bool c2, .bool c3, .bool c4, .bool c5] ∧ w3.grownBy w4 (some (w.heap.size + 1 + 1 + 1)) ∧ Below w.heap.size w w4) (fun i _ => 3 - (intOf i).toNat)
          case atStart => exact ⟨.inl ⟨rfl, hout.alloc _⟩, Blk.new _ _ _, grown_alloc hgr _, hb.alloc (by omega) _⟩
          case round =>
          clear hout hgr hb
          obtain ⟨hd, hspan, hgr2, hbb⟩ := hrel
          rcases hd with ⟨rfl, ho⟩ | ⟨rfl, ho⟩ | ⟨rfl, ho⟩ | ⟨rfl, ho⟩
          · have hx : (c0 = true) ∨ (c0 = false ∧ c1 = false ∧ i0 < 0) ∨ (c0 = false ∧ c1 = true) ∨ (c0 = false ∧ c1 = false ∧ ¬ i0 < 0) := by
              by_cases hx : i0 < 0 <;> cases c0 <;> cases c1 <;> simp [hx]
            obtain ⟨z0, z1, z2⟩ := ho.c3
            obtain ⟨e0, e1, e2, e3, e4, e5, e6⟩ := hspan.c7
            have fz := ho.frozen 0
            rcases hx with rfl | ⟨rfl, rfl, hneg⟩ | ⟨rfl, rfl⟩ | ⟨rfl, rfl, hneg⟩
            · have ha : addD 0 (decide (i0 < 0)) [true, c1, c2, c3, c4, c5] q = q := addD_yes (by simp [highB])
              have HA := Lib.hid ha
              clear ha
              go_wp2
              go_region
              all_goals go_wp2
              all_goals go_roundw
              case rel => exact ⟨.inr (.inl ⟨rfl, by rw [HA.out]; exact ho.set_ 0 _⟩), hspan.far (by simp; omega) _, grown_drew (grown_setCell hgr2 (.inl rfl) _), (hbb.setCell (by simp; omega) _).drew⟩
              case measure => simp [intOf]
            · have ha : addD 0 (decide (i0 < 0)) [false, false, c2, c3, c4, c5] q = q := addD_yes (by simp [highB, hneg])
              have HA := Lib.hid ha
              clear ha
              go_wp2
              go_region
              all_goals go_wp2
              all_goals go_roundw
              case rel => exact ⟨.inr (.inl ⟨rfl, by rw [HA.out]; exact ho.set_ 0 _⟩), hspan.far (by simp; omega) _, grown_drew (grown_setCell hgr2 (.inl rfl) _), (hbb.setCell (by simp; omega) _).drew⟩
              case measure => simp [intOf]
            · have ha : addD 0 (decide (i0 < 0)) [false, true, c2, c3, c4, c5] q = 0 := addD_no (by simp [highB])
              have HA := Lib.hid ha
              clear ha
              go_wp2
              go_roundw
              case rel => exact ⟨.inr (.inl ⟨rfl, by rw [HA.out]; simpa using ho⟩), hspan, hgr2, hbb⟩
              case measure => simp [intOf]
            · have ha : addD 0 (decide (i0 < 0)) [false, false, c2, c3, c4, c5] q = 0 := addD_no (by simp [highB, hneg])
              have HA := Lib.hid ha
              clear ha
              go_wp2
              go_roundw
              case rel => exact ⟨.inr (.inl ⟨rfl, by rw [HA.out]; simpa using ho⟩), hspan, hgr2, hbb⟩
              case measure => simp [intOf]
          · have hx : (c2 = true) ∨ (c2 = false ∧ c3 = false ∧ i1 < 0) ∨ (c2 = false ∧ c3 = true) ∨ (c2 = false ∧ c3 = false ∧ ¬ i1 < 0) := by
              by_cases hx : i1 < 0 <;> cases c2 <;> cases c3 <;> simp [hx]
            obtain ⟨z0, z1, z2⟩ := ho.c3
            obtain ⟨e0, e1, e2, e3, e4, e5, e6⟩ := hspan.c7
            have fz := ho.frozen 1
            rcases hx with rfl | ⟨rfl, rfl, hneg⟩ | ⟨rfl, rfl⟩ | ⟨rfl, rfl, hneg⟩
            · have ha : addD 1 (decide (i1 < 0)) [c0, c1, true, c3, c4, c5] q = q := addD_yes (by simp [highB])
              have HA := Lib.hid ha
              clear ha
              go_wp2
              go_region
              all_goals go_wp2
              all_goals go_roundw
              case rel => exact ⟨.inr (.inr (.inl ⟨rfl, by rw [HA.out]; exact ho.set_ 1 _⟩)), hspan.far (by simp; omega) _, grown_drew (grown_setCell hgr2 (.inl rfl) _), (hbb.setCell (by simp; omega) _).drew⟩
              case measure => simp [intOf]
            · have ha : addD 1 (decide (i1 < 0)) [c0, c1, false, false, c4, c5] q = q := addD_yes (by simp [highB, hneg])
              have HA := Lib.hid ha
              clear ha
              go_wp2
              go_region
              all_goals go_wp2
              all_goals go_roundw
              case rel => exact ⟨.inr (.inr (.inl ⟨rfl, by rw [HA.out]; exact ho.set_ 1 _⟩)), hspan.far (by simp; omega) _, grown_drew (grown_setCell hgr2 (.inl rfl) _), (hbb.setCell (by simp; omega) _).drew⟩
              case measure => simp [intOf]
            · have ha : addD 1 (decide (i1 < 0)) [c0, c1, false, true, c4, c5] q = 0 := addD_no (by simp [highB])
              have HA := Lib.hid ha
              clear ha
              go_wp2
              go_roundw
              case rel => exact ⟨.inr (.inr (.inl ⟨rfl, by rw [HA.out]; simpa using ho⟩)), hspan, hgr2, hbb⟩
              case measure => simp [intOf]
            · have ha : addD 1 (decide (i1 < 0)) [c0, c1, false, false, c4, c5] q = 0 := addD_no (by simp [highB, hneg])
              have HA := Lib.hid ha
              clear ha
              go_wp2
              go_roundw
              case rel => exact ⟨.inr (.inr (.inl ⟨rfl, by rw [HA.out]; simpa using ho⟩)), hspan, hgr2, hbb⟩
              case measure => simp [intOf]
          · have hx : (c4 = true) ∨ (c4 = false ∧ c5 = false ∧ i2 < 0) ∨ (c4 = false ∧ c5 = true) ∨ (c4 = false ∧ c5 = false ∧ ¬ i2 < 0) := by
              by_cases hx : i2 < 0 <;> cases c4 <;> cases c5 <;> simp [hx]
            obtain ⟨z0, z1, z2⟩ := ho.c3
            obtain ⟨e0, e1, e2, e3, e4, e5, e6⟩ := hspan.c7
            have fz := ho.frozen 2
            rcases hx with rfl | ⟨rfl, rfl, hneg⟩ | ⟨rfl, rfl⟩ | ⟨rfl, rfl, hneg⟩
            · have ha : addD 2 (decide (i2 < 0)) [c0, c1, c2, c3, true, c5] q = q := addD_yes (by simp [highB])
              have HA := Lib.hid ha
              clear ha
              go_wp2
              go_region
              all_goals go_wp2
              all_goals go_roundw
              case rel => exact ⟨.inr (.inr (.inr ⟨rfl, by rw [HA.out]; exact ho.set_ 2 _⟩)), hspan.far (by simp; omega) _, grown_drew (grown_setCell hgr2 (.inl rfl) _), (hbb.setCell (by simp; omega) _).drew⟩
              case measure => simp [intOf]
            · have ha : addD 2 (decide (i2 < 0)) [c0, c1, c2, c3, false, false] q = q := addD_yes (by simp [highB, hneg])
              have HA := Lib.hid ha
              clear ha
              go_wp2
              go_region
              all_goals go_wp2
              all_goals go_roundw
              case rel => exact ⟨.inr (.inr (.inr ⟨rfl, by rw [HA.out]; exact ho.set_ 2 _⟩)), hspan.far (by simp; omega) _, grown_drew (grown_setCell hgr2 (.inl rfl) _), (hbb.setCell (by simp; omega) _).drew⟩
              case measure => simp [intOf]
            · have ha : addD 2 (decide (i2 < 0)) [c0, c1, c2, c3, false, true] q = 0 := addD_no (by simp [highB])
              have HA := Lib.hid ha
              clear ha
              go_wp2
              go_roundw
              case rel => exact ⟨.inr (.inr (.inr ⟨rfl, by rw [HA.out]; simpa using ho⟩)), hspan, hgr2, hbb⟩
              case measure => simp [intOf]
            · have ha : addD 2 (decide (i2 < 0)) [c0, c1, c2, c3, false, false] q = 0 := addD_no (by simp [highB, hneg])
              have HA := Lib.hid ha
              clear ha
              go_wp2
              go_roundw
              case rel => exact ⟨.inr (.inr (.inr ⟨rfl, by rw [HA.out]; simpa using ho⟩)), hspan, hgr2, hbb⟩
              case measure => simp [intOf]
          · go_wp2
            go_roundw
            case rel => exact ⟨k + 1, _, _, _, by omega, by go_num, hn0, hn1, hn2, ho, hgr2, hbb⟩
            case measure => simp [intOf]; omega
        · have hks : k = sp.length := by omega
          have f2a := (g23.grown hgr (by simp))
          obtain ⟨y0, y1, y2⟩ := f2a.c3
          have f0 := f2a.frozen 0
          have f1 := f2a.frozen 1
          have f2 := f2a.frozen 2
          have hr0 : Hid (hgh per [b0, b1, b2, b3, b4, b5] es 0 i0 = s0) := by show _ = _; rw [hgh_ok HER.out, HSP.out, ← hs0.out, hks, List.take_length]
          have hr1 : Hid (hgh per [b0, b1, b2, b3, b4, b5] es 1 i1 = s1) := by show _ = _; rw [hgh_ok HER.out, HSP.out, ← hs1.out, hks, List.take_length]
          have hr2 : Hid (hgh per [b0, b1, b2, b3, b4, b5] es 2 i2 = s2) := by show _ = _; rw [hgh_ok HER.out, HSP.out, ← hs2.out, hks, List.take_length]
          clear hks
          go_wp2
          refine bodyPost_ret (ret_cell_tmp rfl rfl (load_ints3 (((f2a.set_ 0 _).set_ 1 _).set_ 2 _))) rfl ⟨?_, ?_⟩
          · rw [hr0.out, hr1.out, hr2.out, HER.out]
            rfl
          · exact ((hb.setCell (by simp; omega) _).setCell (by simp; omega) _).setCell (by simp; omega) _

end Go.Proofs.YtpfkiohknpeifaaGreat.I

namespace Go.Proofs.YtpfkiohknpeifaaGreat.I
open Go.RowKit

/-- The current, clipped. -/
def amp (i : Int) : Int := clipI i (-2097152) 2097152
theorem amp_bd (i : Int) : -2097152 ≤ amp i ∧ amp i ≤ 2097152 := by
  unfold amp clipI; split
  · omega
  · split <;> omega
theorem mul_bd {h a : Int} (h1 : 0 ≤ h) (h2 : h ≤ 4096) (a1 : -2097152 ≤ a) (a2 : a ≤ 2097152) : -8589934592 ≤ h * a ∧ h * a ≤ 8589934592 := by
  have e1 : h * a ≤ h * 2097152 := Int.mul_le_mul_of_nonneg_left a2 h1
  have e2 : h * (-2097152) ≤ h * a := Int.mul_le_mul_of_nonneg_left a1 h1
  omega
/-- What is drawn: the sum of the products, divided by the period. -/
def drawF (per h0 h1 h2 i0 i1 i2 : Int) : Int := (h0 * amp i0 + h1 * amp i1 + h2 * amp i2).tdiv per
def drawP (per : Int) (on : List Bool) (es : List Ed) (i0 i1 i2 : Int) : Int := if err per on es = 0 then drawF per (hgh per on es 0 i0) (hgh per on es 1 i1) (hgh per on es 2 i2) i0 i1 i2 else 0
def drawR (per : Int) (on : List Bool) (es : List Ed) (i0 i1 i2 : Int) : Int := drawF per (highR per on es 0 (decide (i0 < 0))) (highR per on es 1 (decide (i1 < 0))) (highR per on es 2 (decide (i2 < 0))) i0 i1 i2
theorem draw_eq {per : Int} {on : List Bool} {es : List Ed} {i0 i1 i2 : Int} (h : err per on es = 0) : drawP per on es i0 i1 i2 = drawR per on es i0 i1 i2 := by
  unfold drawP drawR
  rw [if_pos h, hgh_cnt h, hgh_cnt h, hgh_cnt h]

set_option maxRecDepth 100000 in
set_option maxHeartbeats 1600000 in
theorem draw_walk (per : Int) (b0 b1 b2 b3 b4 b5 : Bool) (A : Option Addr) (n c : Nat) (es : List Ed) (i0 i1 i2 : Int) (w : World) (hE : Sl w w.heap.size 3 A (es.map Ed.row)) (hn : n = es.length) (hm : n ≤ 1000000) :
    Calls Tryz.prog 88 #[.agg #[.int .i64 per, .bool b0, .bool b1, .bool b2, .bool b3, .bool b4, .bool b5, .slice A n c], .agg #[.int .i64 i0, .int .i64 i1, .int .i64 i2]] w fun e w' =>
      e = .returned (.tuple #[.int .i64 (drawP per [b0, b1, b2, b3, b4, b5] es i0 i1 i2), errV (err per [b0, b1, b2, b3, b4, b5] es)]) ∧ Below w.heap.size w w' := by
  have HN := Lib.hid hn
  clear hn
  have hb0 := ((Below.refl w.heap.size w).alloc (Nat.le_refl _) (.cells #[.int .i64 per, .bool b0, .bool b1, .bool b2, .bool b3, .bool b4, .bool b5, .slice A n c] 51)).alloc (by simp) (.cells #[.int .i64 i0, .int .i64 i1, .int .i64 i2] 67)
  have hhi := high_walk per b0 b1 b2 b3 b4 b5 A n c es i0 i1 i2 _ ((hE.below hb0).more hb0.size) HN.out hm
  obtain ⟨h0, e0⟩ : ∃ h0, hgh per [b0, b1, b2, b3, b4, b5] es 0 i0 = h0 := ⟨_, rfl⟩
  obtain ⟨h1, e1⟩ : ∃ h1, hgh per [b0, b1, b2, b3, b4, b5] es 1 i1 = h1 := ⟨_, rfl⟩
  obtain ⟨h2, e2⟩ : ∃ h2, hgh per [b0, b1, b2, b3, b4, b5] es 2 i2 = h2 := ⟨_, rfl⟩
  have d0 := @hgh_bd per [b0, b1, b2, b3, b4, b5] es 0 i0
  have d1 := @hgh_bd per [b0, b1, b2, b3, b4, b5] es 1 i1
  have d2 := @hgh_bd per [b0, b1, b2, b3, b4, b5] es 2 i2
  rw [e0] at d0
  rw [e1] at d1
  rw [e2] at d2
  rw [e0, e1, e2] at hhi
  have E0 := Lib.hid e0
  have E1 := Lib.hid e1
  have E2 := Lib.hid e2
  clear e0 e1 e2
  by_cases he : err per [b0, b1, b2, b3, b4, b5] es = 0
  · obtain ⟨hc, _⟩ := err_ok he
    obtain ⟨hp1, hp2, _⟩ := chk_zero hc
    rw [he, errV_zero] at hhi
    have HI := hide hhi
    have HE := Lib.hid he
    clear hhi he hc
    have m0 := mul_bd d0.1 d0.2 (amp_bd i0).1 (amp_bd i0).2
    have m1 := mul_bd d1.1 d1.2 (amp_bd i1).1 (amp_bd i1).2
    have m2 := mul_bd d2.1 d2.2 (amp_bd i2).1 (amp_bd i2).2
    obtain ⟨m01, m02⟩ := m0
    obtain ⟨m11, m12⟩ := m1
    obtain ⟨m21, m22⟩ := m2
    have ix0 := index3_0 (.int .i64 h0) (.int .i64 h1) (.int .i64 h2)
    have ix1 := index3_1 (.int .i64 h0) (.int .i64 h1) (.int .i64 h2)
    have ix2 := index3_2 (.int .i64 h0) (.int .i64 h1) (.int .i64 h2)
    go_enter Tryz.func88, Tryz.ntmps88
    go_wp2_with fail
    refine (unhide HI).mono ?_
    rintro e w1 ⟨rfl, hb1⟩
    have hbb := hb0.trans (hb1.mono hb0.size)
    have g0 := ((Blk.new w 51 #[.int .i64 per, .bool b0, .bool b1, .bool b2, .bool b3, .bool b4, .bool b5, .slice A n c]).alloc (.cells #[.int .i64 i0, .int .i64 i1, .int .i64 i2] 67)).below hb1 (by simp; omega)
    have g1 := (Blk.new' (w := w.alloc (.cells #[.int .i64 per, .bool b0, .bool b1, .bool b2, .bool b3, .bool b4, .bool b5, .slice A n c] 51)) (t := 67) (cs := #[.int .i64 i0, .int .i64 i1, .int .i64 i2]) (g := w.heap.size + 1) (by simp)).below hb1 (by simp)
    obtain ⟨x0, _⟩ := g0.c8
    obtain ⟨u0, u1, u2⟩ := g1.c3
    have hsz : w.heap.size < w1.heap.size := by have := hbb.size; have := g1.lt; omega
    have hsz1 : w.heap.size + 1 < w1.heap.size := g1.lt
    clear hb1 HI hb0
    go_wp2
    go_loop [8, 21] (fun s i => (i = .int .i64 0 ∧ s = .int .i64 0) ∨ (i = .int .i64 1 ∧ s = .int .i64 (h0 * amp i0)) ∨ (i = .int .i64 2 ∧ s = .int .i64 (h0 * amp i0 + h1 * amp i1)) ∨ (i = .int .i64 3 ∧ s = .int .i64 (h0 * amp i0 + h1 * amp i1 + h2 * amp i2))) (fun _ i => 3 - (intOf i).toNat)
    case atStart => exact .inl ⟨rfl, rfl⟩
    case round =>
      rcases hrel with ⟨rfl, rfl⟩ | ⟨rfl, rfl⟩ | ⟨rfl, rfl⟩ | ⟨rfl, rfl⟩
      · go_wp2_with fail
        refine (clip_a i0 (-2097152) 2097152 (by omega) _).mono ?_
        rintro e w2 ⟨rfl, rfl⟩
        rw [show clipI i0 (-2097152) 2097152 = amp i0 from rfl]
        go_wp2
        go_round
        case rel => exact .inr (.inl ⟨rfl, rfl⟩)
        case measure => simp [intOf]
      · go_wp2_with fail
        refine (clip_a i1 (-2097152) 2097152 (by omega) _).mono ?_
        rintro e w2 ⟨rfl, rfl⟩
        rw [show clipI i1 (-2097152) 2097152 = amp i1 from rfl]
        go_wp2
        go_round
        case rel => exact .inr (.inr (.inl ⟨rfl, rfl⟩))
        case measure => simp [intOf]
      · go_wp2_with fail
        refine (clip_a i2 (-2097152) 2097152 (by omega) _).mono ?_
        rintro e w2 ⟨rfl, rfl⟩
        rw [show clipI i2 (-2097152) 2097152 = amp i2 from rfl]
        go_wp2
        go_round
        case rel => exact .inr (.inr (.inr ⟨rfl, rfl⟩))
        case measure => simp [intOf]
      · go_wp2
        go_ret2
        refine ⟨?_, by first | exact hbb | exact hbb.alloc (by omega) _⟩
        rw [HE.out, errV_zero, show drawP per [b0, b1, b2, b3, b4, b5] es i0 i1 i2 = (h0 * amp i0 + h1 * amp i1 + h2 * amp i2).tdiv per from by
          unfold drawP drawF; rw [if_pos HE.out, E0.out, E1.out, E2.out]]
        rfl
  · have HE := Lib.hid he
    rw [errV_ne he] at hhi
    have HI := hide hhi
    clear hhi he
    go_enter Tryz.func88, Tryz.ntmps88
    go_wp2_with fail
    refine (unhide HI).mono ?_
    rintro e w1 ⟨rfl, hb1⟩
    have hbb := hb0.trans (hb1.mono hb0.size)
    go_wp2
    go_ret2
    refine ⟨?_, by first | exact hbb | exact hbb.alloc hbb.size _⟩
    rw [errV_ne HE.out, show drawP per [b0, b1, b2, b3, b4, b5] es i0 i1 i2 = 0 from if_neg HE.out]
    rfl

set_option maxRecDepth 100000 in
set_option maxHeartbeats 1600000 in
theorem rdraw_walk (per : Int) (b0 b1 b2 b3 b4 b5 : Bool) (A : Option Addr) (n c : Nat) (es : List Ed) (i0 i1 i2 : Int) (w : World) (hE : Sl w w.heap.size 3 A (es.map Ed.row)) (hn : n = es.length) (hm : n ≤ 1000000) (he : err per [b0, b1, b2, b3, b4, b5] es = 0) :
    Calls Tryz.prog 53 #[.agg #[.int .i64 per, .bool b0, .bool b1, .bool b2, .bool b3, .bool b4, .bool b5, .slice A n c], .agg #[.int .i64 i0, .int .i64 i1, .int .i64 i2]] w fun e w' =>
      e = .returned (.int .i64 (drawR per [b0, b1, b2, b3, b4, b5] es i0 i1 i2)) ∧ Below w.heap.size w w' := by
  have HN := Lib.hid hn
  obtain ⟨hc, _⟩ := err_ok he
  have hb0 := ((Below.refl w.heap.size w).alloc (Nat.le_refl _) (.cells #[.int .i64 per, .bool b0, .bool b1, .bool b2, .bool b3, .bool b4, .bool b5, .slice A n c] 51)).alloc (by simp) (.cells #[.int .i64 i0, .int .i64 i1, .int .i64 i2] 67)
  have hhi := rhigh_walk per b0 b1 b2 b3 b4 b5 A n c es i0 i1 i2 _ ((hE.below hb0).more hb0.size) HN.out hm hc
  have hre := @draw_eq per [b0, b1, b2, b3, b4, b5] es i0 i1 i2 he
  rw [← hgh_cnt he, ← hgh_cnt he, ← hgh_cnt he] at hhi
  rw [← hre, show drawP per [b0, b1, b2, b3, b4, b5] es i0 i1 i2 = drawF per (hgh per [b0, b1, b2, b3, b4, b5] es 0 i0) (hgh per [b0, b1, b2, b3, b4, b5] es 1 i1) (hgh per [b0, b1, b2, b3, b4, b5] es 2 i2) i0 i1 i2 from if_pos he]
  clear hn hre
  have d0 := @hgh_bd per [b0, b1, b2, b3, b4, b5] es 0 i0
  have d1 := @hgh_bd per [b0, b1, b2, b3, b4, b5] es 1 i1
  have d2 := @hgh_bd per [b0, b1, b2, b3, b4, b5] es 2 i2
  generalize hgh per [b0, b1, b2, b3, b4, b5] es 0 i0 = h0 at *
  generalize hgh per [b0, b1, b2, b3, b4, b5] es 1 i1 = h1 at *
  generalize hgh per [b0, b1, b2, b3, b4, b5] es 2 i2 = h2 at *
  obtain ⟨hp1, hp2, _⟩ := chk_zero hc
  have HI := hide hhi
  clear hhi he hc
  obtain ⟨m01, m02⟩ := mul_bd d0.1 d0.2 (amp_bd i0).1 (amp_bd i0).2
  obtain ⟨m11, m12⟩ := mul_bd d1.1 d1.2 (amp_bd i1).1 (amp_bd i1).2
  obtain ⟨m21, m22⟩ := mul_bd d2.1 d2.2 (amp_bd i2).1 (amp_bd i2).2
  go_enter Tryz.func53, Tryz.ntmps53
  go_wp2_with fail
  refine (unhide HI).mono ?_
  rintro e w1 ⟨rfl, hb1⟩
  have hbb := hb0.trans (hb1.mono hb0.size)
  have g0 := ((Blk.new w 51 #[.int .i64 per, .bool b0, .bool b1, .bool b2, .bool b3, .bool b4, .bool b5, .slice A n c]).alloc (.cells #[.int .i64 i0, .int .i64 i1, .int .i64 i2] 67)).below hb1 (by simp; omega)
  have g1 := (Blk.new' (w := w.alloc (.cells #[.int .i64 per, .bool b0, .bool b1, .bool b2, .bool b3, .bool b4, .bool b5, .slice A n c] 51)) (t := 67) (cs := #[.int .i64 i0, .int .i64 i1, .int .i64 i2]) (g := w.heap.size + 1) (by simp)).below hb1 (by simp)
  have hsz : w.heap.size < w1.heap.size := by have := g1.lt; omega
  have hsz1 : w.heap.size + 1 < w1.heap.size := g1.lt
  clear hb1 HI hb0
  go_wp2
  go_loopw [6, 7] (fun s i wr => ((i = .int .i64 0 ∧ s = .int .i64 0) ∨ (i = .int .i64 1 ∧ s = .int .i64 (h0 * amp i0)) ∨ (i = .int .i64 2 ∧ s = .int .i64 (h0 * amp i0 + h1 * amp i1)) ∨ (i = .int .i64 3 ∧ s = .int .i64 (h0 * amp i0 + h1 * amp i1 + h2 * amp i2))) ∧
      Blk wr w1.heap.size 67 #[.int .i64 h0, .int .i64 h1, .int .i64 h2] ∧ Blk wr (w.heap.size + 1) 67 #[.int .i64 i0, .int .i64 i1, .int .i64 i2] ∧ Blk wr w.heap.size 51 #[.int .i64 per, .bool b0, .bool b1, .bool b2, .bool b3, .bool b4, .bool b5, .slice A n c] ∧ Below w.heap.size w wr) (fun _ i _ => 3 - (intOf i).toNat)
  case atStart => exact ⟨.inl ⟨rfl, rfl⟩, Blk.new _ _ _, g1.alloc _, g0.alloc _, hbb.alloc (by omega) _⟩
  case round =>
    obtain ⟨hd, hsum, hcur, hper, hbe⟩ := hrel
    obtain ⟨z0, z1, z2⟩ := hsum.c3
    obtain ⟨u0, u1, u2⟩ := hcur.c3
    have x0 := hper.c8.1
    rcases hd with ⟨rfl, rfl⟩ | ⟨rfl, rfl⟩ | ⟨rfl, rfl⟩ | ⟨rfl, rfl⟩
    · go_wp2
      go_quiet ((go_at_call 107; exact quiet_left (clip_r i0 (-2097152) 2097152 (by omega) _)))
      rw [show clipI i0 (-2097152) 2097152 = amp i0 from rfl]
      go_wp2
      go_roundw
      case rel => exact ⟨.inr (.inl ⟨rfl, congrArg (Value.int .i64) (by rw [w64 (x := h0 * amp i0) (by omega) (by omega), w64 (by omega) (by omega)])⟩), hsum.drewN nq, hcur.drewN nq, hper.drewN nq, below_drewN hbe nq⟩
      case measure => simp [intOf]
    · go_wp2
      go_quiet ((go_at_call 107; exact quiet_left (clip_r i1 (-2097152) 2097152 (by omega) _)))
      rw [show clipI i1 (-2097152) 2097152 = amp i1 from rfl]
      go_wp2
      go_roundw
      case rel => exact ⟨.inr (.inr (.inl ⟨rfl, congrArg (Value.int .i64) (by rw [w64 (x := h1 * amp i1) (by omega) (by omega), w64 (by omega) (by omega)])⟩)), hsum.drewN nq, hcur.drewN nq, hper.drewN nq, below_drewN hbe nq⟩
      case measure => simp [intOf]
    · go_wp2
      go_quiet ((go_at_call 107; exact quiet_left (clip_r i2 (-2097152) 2097152 (by omega) _)))
      rw [show clipI i2 (-2097152) 2097152 = amp i2 from rfl]
      go_wp2
      go_roundw
      case rel => exact ⟨.inr (.inr (.inr ⟨rfl, congrArg (Value.int .i64) (by rw [w64 (x := h2 * amp i2) (by omega) (by omega), w64 (by omega) (by omega)])⟩)), hsum.drewN nq, hcur.drewN nq, hper.drewN nq, below_drewN hbe nq⟩
      case measure => simp [intOf]
    · go_wp2
      go_ret
      exact ⟨rfl, hbe⟩

end Go.Proofs.YtpfkiohknpeifaaGreat.I

namespace Go.Proofs.YtpfkiohknpeifaaGreat.I
open Go.RowKit

def lnk (k : Int) : Int := clipI k 0 1048576
theorem lnk_bd (k : Int) : 0 ≤ lnk k ∧ lnk k ≤ 1048576 := by
  unfold lnk clipI; split
  · omega
  · split <;> omega
theorem mulv_bd {h a : Int} (h1 : 0 ≤ h) (h2 : h ≤ 4096) (a1 : 0 ≤ a) (a2 : a ≤ 1048576) : 0 ≤ h * a ∧ h * a ≤ 4294967296 := by
  have e1 : h * a ≤ h * 1048576 := Int.mul_le_mul_of_nonneg_left a2 h1
  have e2 : 0 ≤ h * a := Int.mul_nonneg h1 a1
  omega
/-- A leg's voltage. -/
def voltF (per h l : Int) : Int := h * l / per
def voltP (per : Int) (on : List Bool) (es : List Ed) (leg : Nat) (cur k : Int) : Int := if err per on es = 0 then voltF per (hgh per on es leg cur) (lnk k) else 0

set_option maxRecDepth 100000 in
set_option maxHeartbeats 1600000 in
theorem volts_walk (per : Int) (b0 b1 b2 b3 b4 b5 : Bool) (A : Option Addr) (n c : Nat) (es : List Ed) (i0 i1 i2 k : Int) (w : World) (hE : Sl w w.heap.size 3 A (es.map Ed.row)) (hn : n = es.length) (hm : n ≤ 1000000) :
    Calls Tryz.prog 131 #[.agg #[.int .i64 per, .bool b0, .bool b1, .bool b2, .bool b3, .bool b4, .bool b5, .slice A n c], .agg #[.int .i64 i0, .int .i64 i1, .int .i64 i2], .int .i64 k] w fun e w' =>
      e = .returned (.tuple #[.agg #[.int .i64 (voltP per [b0, b1, b2, b3, b4, b5] es 0 i0 k), .int .i64 (voltP per [b0, b1, b2, b3, b4, b5] es 1 i1 k), .int .i64 (voltP per [b0, b1, b2, b3, b4, b5] es 2 i2 k)], errV (err per [b0, b1, b2, b3, b4, b5] es)]) ∧ Below w.heap.size w w' := by
  have HN := Lib.hid hn
  clear hn
  have hb0 := (((Below.refl w.heap.size w).alloc (Nat.le_refl _) (.cells #[.int .i64 per, .bool b0, .bool b1, .bool b2, .bool b3, .bool b4, .bool b5, .slice A n c] 51)).alloc (by simp) (.cells #[.int .i64 i0, .int .i64 i1, .int .i64 i2] 67)).alloc (by simp; omega) (.cells #[.int .i64 0, .int .i64 0, .int .i64 0] 67)
  have hhi := high_walk per b0 b1 b2 b3 b4 b5 A n c es i0 i1 i2 _ ((hE.below hb0).more hb0.size) HN.out hm
  obtain ⟨h0, e0⟩ : ∃ h0, hgh per [b0, b1, b2, b3, b4, b5] es 0 i0 = h0 := ⟨_, rfl⟩
  obtain ⟨h1, e1⟩ : ∃ h1, hgh per [b0, b1, b2, b3, b4, b5] es 1 i1 = h1 := ⟨_, rfl⟩
  obtain ⟨h2, e2⟩ : ∃ h2, hgh per [b0, b1, b2, b3, b4, b5] es 2 i2 = h2 := ⟨_, rfl⟩
  have d0 := @hgh_bd per [b0, b1, b2, b3, b4, b5] es 0 i0
  have d1 := @hgh_bd per [b0, b1, b2, b3, b4, b5] es 1 i1
  have d2 := @hgh_bd per [b0, b1, b2, b3, b4, b5] es 2 i2
  rw [e0] at d0
  rw [e1] at d1
  rw [e2] at d2
  rw [e0, e1, e2] at hhi
  have E0 := Lib.hid e0
  have E1 := Lib.hid e1
  have E2 := Lib.hid e2
  clear e0 e1 e2
  by_cases he : err per [b0, b1, b2, b3, b4, b5] es = 0
  case pos =>
    obtain ⟨hc, _⟩ := err_ok he
    obtain ⟨hp1, hp2, _⟩ := chk_zero hc
    rw [he, errV_zero] at hhi
    have HI := hide hhi
    have HE := Lib.hid he
    clear hhi he hc
    obtain ⟨m01, m02⟩ := mulv_bd d0.1 d0.2 (lnk_bd k).1 (lnk_bd k).2
    obtain ⟨m11, m12⟩ := mulv_bd d1.1 d1.2 (lnk_bd k).1 (lnk_bd k).2
    obtain ⟨m21, m22⟩ := mulv_bd d2.1 d2.2 (lnk_bd k).1 (lnk_bd k).2
    go_enter Tryz.func131, Tryz.ntmps131
    go_wp2_with fail
    refine (unhide HI).mono ?_
    rintro e w1 ⟨rfl, hb1⟩
    have hbb := hb0.trans (hb1.mono hb0.size)
    have g0 := (((Blk.new w 51 #[.int .i64 per, .bool b0, .bool b1, .bool b2, .bool b3, .bool b4, .bool b5, .slice A n c]).alloc (.cells #[.int .i64 i0, .int .i64 i1, .int .i64 i2] 67)).alloc (.cells #[.int .i64 0, .int .i64 0, .int .i64 0] 67)).below hb1 (by simp; omega)
    have g2 := (Blk.new' (w := (w.alloc (.cells #[.int .i64 per, .bool b0, .bool b1, .bool b2, .bool b3, .bool b4, .bool b5, .slice A n c] 51)).alloc (.cells #[.int .i64 i0, .int .i64 i1, .int .i64 i2] 67)) (t := 67) (cs := #[.int .i64 0, .int .i64 0, .int .i64 0]) (g := w.heap.size + 1 + 1) (by simp)).below hb1 (by simp)
    have hsz : w.heap.size + 1 + 1 < w1.heap.size := g2.lt
    clear hb1 HI hb0
    go_wp2_with fail
    refine (clip_a k 0 1048576 (by omega) _).mono ?_
    rintro e w2 ⟨rfl, rfl⟩
    rw [show clipI k 0 1048576 = lnk k from rfl]
    go_wp2
    go_loopw [23] (fun i wr => ((i = .int .i64 0 ∧ Blk wr w1.heap.size 67 #[.int .i64 h0, .int .i64 h1, .int .i64 h2]) ∨ (i = .int .i64 1 ∧ Blk wr w1.heap.size 67 #[.int .i64 (voltF per h0 (lnk k)), .int .i64 h1, .int .i64 h2]) ∨ (i = .int .i64 2 ∧ Blk wr w1.heap.size 67 #[.int .i64 (voltF per h0 (lnk k)), .int .i64 (voltF per h1 (lnk k)), .int .i64 h2]) ∨ (i = .int .i64 3 ∧ Blk wr w1.heap.size 67 #[.int .i64 (voltF per h0 (lnk k)), .int .i64 (voltF per h1 (lnk k)), .int .i64 (voltF per h2 (lnk k))])) ∧
        Blk wr w.heap.size 51 #[.int .i64 per, .bool b0, .bool b1, .bool b2, .bool b3, .bool b4, .bool b5, .slice A n c] ∧ Blk wr (w.heap.size + 1 + 1) 67 #[.int .i64 0, .int .i64 0, .int .i64 0] ∧ Below w.heap.size w wr) (fun i _ => 3 - (intOf i).toNat)
    case atStart => exact ⟨.inl ⟨rfl, Blk.new _ _ _⟩, g0.alloc _, g2.alloc _, hbb.alloc (by omega) _⟩
    case round =>
    obtain ⟨hd, hper, hres, hbe⟩ := hrel
    have x0 := hper.c8.1
    rcases hd with ⟨rfl, hsum⟩ | ⟨rfl, hsum⟩ | ⟨rfl, hsum⟩ | ⟨rfl, hsum⟩
    all_goals
      obtain ⟨z0, z1, z2⟩ := hsum.c3
      obtain ⟨y0, y1, y2⟩ := hres.c3
      have fz0 := hsum.frozen 0
      have fz1 := hsum.frozen 1
      have fz2 := hsum.frozen 2
      have fy0 := hres.frozen 0
      have fy1 := hres.frozen 1
      have fy2 := hres.frozen 2
    · go_wp2
      go_region
      all_goals go_wp2
      all_goals go_roundw
      case rel => exact ⟨.inr (.inl ⟨rfl, hsum.set_ 0 _⟩), hper.far (by simp; omega) _, hres.far (by simp; omega) _, (hbe.setCell (by simp; omega) _).drew⟩
      case measure => simp [intOf]
    · go_wp2
      go_region
      all_goals go_wp2
      all_goals go_roundw
      case rel => exact ⟨.inr (.inr (.inl ⟨rfl, hsum.set_ 1 _⟩)), hper.far (by simp; omega) _, hres.far (by simp; omega) _, (hbe.setCell (by simp; omega) _).drew⟩
      case measure => simp [intOf]
    · go_wp2
      go_region
      all_goals go_wp2
      all_goals go_roundw
      case rel => exact ⟨.inr (.inr (.inr ⟨rfl, hsum.set_ 2 _⟩)), hper.far (by simp; omega) _, hres.far (by simp; omega) _, (hbe.setCell (by simp; omega) _).drew⟩
      case measure => simp [intOf]
    · go_wp2
      refine bodyPost_ret (ret_cell_tmp rfl rfl (load_ints3 (((hres.set_ 0 _).set_ 1 _).set_ 2 _))) rfl ⟨?_, ?_⟩
      · rw [HE.out, errV_zero]
        simp only [voltP, HE.out, if_true, E0.out, E1.out, E2.out]
        rfl
      · exact ((hbe.setCell (by simp; omega) _).setCell (by simp; omega) _).setCell (by simp; omega) _
  case neg =>
    have HE := Lib.hid he
    rw [errV_ne he] at hhi
    have HI := hide hhi
    clear hhi he
    go_enter Tryz.func131, Tryz.ntmps131
    go_wp2_with fail
    refine (unhide HI).mono ?_
    rintro e w1 ⟨rfl, hb1⟩
    have hbb := hb0.trans (hb1.mono hb0.size)
    have g2 := (Blk.new' (w := (w.alloc (.cells #[.int .i64 per, .bool b0, .bool b1, .bool b2, .bool b3, .bool b4, .bool b5, .slice A n c] 51)).alloc (.cells #[.int .i64 i0, .int .i64 i1, .int .i64 i2] 67)) (t := 67) (cs := #[.int .i64 0, .int .i64 0, .int .i64 0]) (g := w.heap.size + 1 + 1) (by simp)).below hb1 (by simp)
    have hsz : w.heap.size + 1 + 1 < w1.heap.size := g2.lt
    obtain ⟨y0, y1, y2⟩ := g2.c3
    have fy0 := g2.frozen 0
    have fy1 := g2.frozen 1
    have fy2 := g2.frozen 2
    go_wp2
    refine bodyPost_ret (ret_cell_tmp rfl rfl (load_ints3 ((((g2.set_ 0 _).set_ 1 _).set_ 2 _).alloc _))) rfl ⟨?_, ?_⟩
    · rw [errV_ne HE.out]
      simp only [voltP, if_neg HE.out]
      rfl
    · exact (((hbb.setCell (by simp; omega) _).setCell (by simp; omega) _).setCell (by simp; omega) _).alloc (by simp; omega) _

end Go.Proofs.YtpfkiohknpeifaaGreat.I

namespace Go.Proofs.YtpfkiohknpeifaaGreat.I
open Go.RowKit

theorem voltF_wrap {per h l : Int} (h1 : 0 ≤ h * l) (h2 : h * l ≤ 4294967296) (hp : 64 ≤ per) : IntKind.i64.wrap ((h * l).tdiv per) = voltF per h l := by
  unfold voltF
  rw [Int.tdiv_eq_ediv_of_nonneg h1]
  have e1 : 0 ≤ h * l / per := Int.ediv_nonneg h1 (by omega)
  have e2 : h * l / per ≤ h * l := Int.ediv_le_self _ h1
  exact IntWalk.i64_in _ (by omega)
theorem lnk_quiet (k : Int) (w : World) : Calls Tryz.prog 107 #[.int .i64 k, .int .i64 0, .int .i64 1048576] w fun e w' => e = .returned (.int .i64 (lnk k)) ∧ w' = w :=
  (clip_r k 0 1048576 (by omega) w).mono fun _ _ ⟨he, hw⟩ => ⟨he, hw.symm⟩

set_option maxRecDepth 100000 in
set_option maxHeartbeats 1600000 in
theorem rvolts_walk (per : Int) (b0 b1 b2 b3 b4 b5 : Bool) (A : Option Addr) (n c : Nat) (es : List Ed) (i0 i1 i2 k : Int) (w : World) (hE : Sl w w.heap.size 3 A (es.map Ed.row)) (hn : n = es.length) (hm : n ≤ 1000000) (he : err per [b0, b1, b2, b3, b4, b5] es = 0) :
    Calls Tryz.prog 108 #[.agg #[.int .i64 per, .bool b0, .bool b1, .bool b2, .bool b3, .bool b4, .bool b5, .slice A n c], .agg #[.int .i64 i0, .int .i64 i1, .int .i64 i2], .int .i64 k] w fun e w' =>
      e = .returned (.agg #[.int .i64 (voltP per [b0, b1, b2, b3, b4, b5] es 0 i0 k), .int .i64 (voltP per [b0, b1, b2, b3, b4, b5] es 1 i1 k), .int .i64 (voltP per [b0, b1, b2, b3, b4, b5] es 2 i2 k)]) ∧ Below w.heap.size w w' := by
  have HN := Lib.hid hn
  obtain ⟨hc, _⟩ := err_ok he
  have hb0 := (((Below.refl w.heap.size w).alloc (Nat.le_refl _) (.cells #[.int .i64 per, .bool b0, .bool b1, .bool b2, .bool b3, .bool b4, .bool b5, .slice A n c] 51)).alloc (by simp) (.cells #[.int .i64 i0, .int .i64 i1, .int .i64 i2] 67)).alloc (by simp; omega) (.cells #[.int .i64 0, .int .i64 0, .int .i64 0] 67)
  have hhi := rhigh_walk per b0 b1 b2 b3 b4 b5 A n c es i0 i1 i2 _ ((hE.below hb0).more hb0.size) HN.out hm hc
  rw [← hgh_cnt he, ← hgh_cnt he, ← hgh_cnt he] at hhi
  rw [show voltP per [b0, b1, b2, b3, b4, b5] es 0 i0 k = voltF per (hgh per [b0, b1, b2, b3, b4, b5] es 0 i0) (lnk k) from if_pos he, show voltP per [b0, b1, b2, b3, b4, b5] es 1 i1 k = voltF per (hgh per [b0, b1, b2, b3, b4, b5] es 1 i1) (lnk k) from if_pos he, show voltP per [b0, b1, b2, b3, b4, b5] es 2 i2 k = voltF per (hgh per [b0, b1, b2, b3, b4, b5] es 2 i2) (lnk k) from if_pos he]
  clear hn
  have d0 := @hgh_bd per [b0, b1, b2, b3, b4, b5] es 0 i0
  have d1 := @hgh_bd per [b0, b1, b2, b3, b4, b5] es 1 i1
  have d2 := @hgh_bd per [b0, b1, b2, b3, b4, b5] es 2 i2
  generalize hgh per [b0, b1, b2, b3, b4, b5] es 0 i0 = h0 at *
  generalize hgh per [b0, b1, b2, b3, b4, b5] es 1 i1 = h1 at *
  generalize hgh per [b0, b1, b2, b3, b4, b5] es 2 i2 = h2 at *
  obtain ⟨hp1, hp2, _⟩ := chk_zero hc
  have HI := hide hhi
  clear hhi he hc
  have hpne : ¬ per = 0 := by omega
  obtain ⟨m01, m02⟩ := mulv_bd d0.1 d0.2 (lnk_bd k).1 (lnk_bd k).2
  obtain ⟨m11, m12⟩ := mulv_bd d1.1 d1.2 (lnk_bd k).1 (lnk_bd k).2
  obtain ⟨m21, m22⟩ := mulv_bd d2.1 d2.2 (lnk_bd k).1 (lnk_bd k).2
  go_enter Tryz.func108, Tryz.ntmps108
  go_wp2_with fail
  refine (unhide HI).mono ?_
  rintro e w1 ⟨rfl, hb1⟩
  have hbb := hb0.trans (hb1.mono hb0.size)
  have g0 := (((Blk.new w 51 #[.int .i64 per, .bool b0, .bool b1, .bool b2, .bool b3, .bool b4, .bool b5, .slice A n c]).alloc (.cells #[.int .i64 i0, .int .i64 i1, .int .i64 i2] 67)).alloc (.cells #[.int .i64 0, .int .i64 0, .int .i64 0] 67)).below hb1 (by simp; omega)
  have g2 := (Blk.new' (w := (w.alloc (.cells #[.int .i64 per, .bool b0, .bool b1, .bool b2, .bool b3, .bool b4, .bool b5, .slice A n c] 51)).alloc (.cells #[.int .i64 i0, .int .i64 i1, .int .i64 i2] 67)) (t := 67) (cs := #[.int .i64 0, .int .i64 0, .int .i64 0]) (g := w.heap.size + 1 + 1) (by simp)).below hb1 (by simp)
  have hsz : w.heap.size + 1 + 1 < w1.heap.size := g2.lt
  clear hb1 HI hb0
  go_wp2
  go_loopw [8] (fun i wr => ((i = .int .i64 0 ∧ Blk wr w1.heap.size 67 #[.int .i64 h0, .int .i64 h1, .int .i64 h2]) ∨ (i = .int .i64 1 ∧ Blk wr w1.heap.size 67 #[.int .i64 (voltF per h0 (lnk k)), .int .i64 h1, .int .i64 h2]) ∨ (i = .int .i64 2 ∧ Blk wr w1.heap.size 67 #[.int .i64 (voltF per h0 (lnk k)), .int .i64 (voltF per h1 (lnk k)), .int .i64 h2]) ∨ (i = .int .i64 3 ∧ Blk wr w1.heap.size 67 #[.int .i64 (voltF per h0 (lnk k)), .int .i64 (voltF per h1 (lnk k)), .int .i64 (voltF per h2 (lnk k))])) ∧ Blk wr w.heap.size 51 #[.int .i64 per, .bool b0, .bool b1, .bool b2, .bool b3, .bool b4, .bool b5, .slice A n c] ∧ Blk wr (w.heap.size + 1 + 1) 67 #[.int .i64 0, .int .i64 0, .int .i64 0] ∧ Below w.heap.size w wr) (fun i _ => 3 - (intOf i).toNat)
  case atStart => exact ⟨.inl ⟨rfl, Blk.new _ _ _⟩, g0.alloc _, g2.alloc _, hbb.alloc (by omega) _⟩
  case round =>
  obtain ⟨hd, hper, hres, hbe⟩ := hrel
  have x0 := hper.c8.1
  rcases hd with ⟨rfl, hsum⟩ | ⟨rfl, hsum⟩ | ⟨rfl, hsum⟩ | ⟨rfl, hsum⟩
  all_goals
    obtain ⟨z0, z1, z2⟩ := hsum.c3
    obtain ⟨y0, y1, y2⟩ := hres.c3
    have fz0 := hsum.frozen 0
    have fz1 := hsum.frozen 1
    have fz2 := hsum.frozen 2
    have fy0 := hres.frozen 0
    have fy1 := hres.frozen 1
    have fy2 := hres.frozen 2
  · go_wp2
    have ew := IntWalk.i64_in (h0 * lnk k) (by omega)
    have ev := voltF_wrap m01 m02 hp1
    refine wp_region_still_tail 11 (by kernel_rfl) (by kernel_rfl) ?_
    simp only [List.take_succ_cons, List.take_zero, List.drop_succ_cons, List.drop_zero]
    repeat still_step
    still_call (lnk_quiet k _)
    repeat still_step
    refine wpStill_nil ?_
    change wpList _ _ _ _ _ wr.drew
    go_wp2
    go_roundw
    case rel => exact ⟨.inr (.inl ⟨rfl, hsum.set_ 0 _⟩), hper.far (by simp; omega) _, hres.far (by simp; omega) _, (hbe.setCell (by simp; omega) _).drew⟩
    case measure => simp [intOf]
  · go_wp2
    have ew := IntWalk.i64_in (h1 * lnk k) (by omega)
    have ev := voltF_wrap m11 m12 hp1
    refine wp_region_still_tail 11 (by kernel_rfl) (by kernel_rfl) ?_
    simp only [List.take_succ_cons, List.take_zero, List.drop_succ_cons, List.drop_zero]
    repeat still_step
    still_call (lnk_quiet k _)
    repeat still_step
    refine wpStill_nil ?_
    change wpList _ _ _ _ _ wr.drew
    go_wp2
    go_roundw
    case rel => exact ⟨.inr (.inr (.inl ⟨rfl, hsum.set_ 1 _⟩)), hper.far (by simp; omega) _, hres.far (by simp; omega) _, (hbe.setCell (by simp; omega) _).drew⟩
    case measure => simp [intOf]
  · go_wp2
    have ew := IntWalk.i64_in (h2 * lnk k) (by omega)
    have ev := voltF_wrap m21 m22 hp1
    refine wp_region_still_tail 11 (by kernel_rfl) (by kernel_rfl) ?_
    simp only [List.take_succ_cons, List.take_zero, List.drop_succ_cons, List.drop_zero]
    repeat still_step
    still_call (lnk_quiet k _)
    repeat still_step
    refine wpStill_nil ?_
    change wpList _ _ _ _ _ wr.drew
    go_wp2
    go_roundw
    case rel => exact ⟨.inr (.inr (.inr ⟨rfl, hsum.set_ 2 _⟩)), hper.far (by simp; omega) _, hres.far (by simp; omega) _, (hbe.setCell (by simp; omega) _).drew⟩
    case measure => simp [intOf]
  · go_wp2
    refine bodyPost_ret (ret_cell rfl rfl (load_ints3 (((hres.set_ 0 _).set_ 1 _).set_ 2 _))) rfl ⟨rfl, ?_⟩
    exact ((hbe.setCell (by simp; omega) _).setCell (by simp; omega) _).setCell (by simp; omega) _

end Go.Proofs.YtpfkiohknpeifaaGreat.I

namespace Go.Proofs.YtpfkiohknpeifaaGreat.I
open Go.RowKit

theorem voltP_bd {per : Int} {on : List Bool} {es : List Ed} {leg : Nat} {cur k : Int} : 0 ≤ voltP per on es leg cur k ∧ voltP per on es leg cur k ≤ 67108864 := by
  unfold voltP
  split
  · rename_i h
    obtain ⟨hc, _⟩ := err_ok h
    obtain ⟨hp1, hp2, _⟩ := chk_zero hc
    have hb := @hgh_bd per on es leg cur
    obtain ⟨m1, m2⟩ := mulv_bd hb.1 hb.2 (lnk_bd k).1 (lnk_bd k).2
    unfold voltF
    refine ⟨Int.ediv_nonneg m1 (by omega), ?_⟩
    have h1 : hgh per on es leg cur * lnk k < 67108865 * per := by omega
    have := Int.ediv_lt_of_lt_mul (by omega) h1
    omega
  · omega
theorem voltP_err {per : Int} {on : List Bool} {es : List Ed} {leg : Nat} {cur k : Int} (h : err per on es ≠ 0) : voltP per on es leg cur k = 0 := if_neg h

set_option maxRecDepth 100000 in
set_option maxHeartbeats 1600000 in
theorem vector_walk (per : Int) (b0 b1 b2 b3 b4 b5 : Bool) (A : Option Addr) (n c : Nat) (es : List Ed) (i0 i1 i2 k : Int) (w : World) (hE : Sl w w.heap.size 3 A (es.map Ed.row)) (hn : n = es.length) (hm : n ≤ 1000000) :
    Calls Tryz.prog 89 #[.agg #[.int .i64 per, .bool b0, .bool b1, .bool b2, .bool b3, .bool b4, .bool b5, .slice A n c], .agg #[.int .i64 i0, .int .i64 i1, .int .i64 i2], .int .i64 k] w fun e w' =>
      e = .returned (.tuple #[.agg #[.int .i64 (fwdA (voltP per [b0, b1, b2, b3, b4, b5] es 0 i0 k) (voltP per [b0, b1, b2, b3, b4, b5] es 1 i1 k) (voltP per [b0, b1, b2, b3, b4, b5] es 2 i2 k)), .int .i64 (fwdB (voltP per [b0, b1, b2, b3, b4, b5] es 1 i1 k) (voltP per [b0, b1, b2, b3, b4, b5] es 2 i2 k))], errV (err per [b0, b1, b2, b3, b4, b5] es)]) ∧ Below w.heap.size w w' := by
  have HN := Lib.hid hn
  clear hn
  have hb0 := (((Below.refl w.heap.size w).alloc (Nat.le_refl _) (.cells #[.int .i64 per, .bool b0, .bool b1, .bool b2, .bool b3, .bool b4, .bool b5, .slice A n c] 51)).alloc (by simp) (.cells #[.int .i64 i0, .int .i64 i1, .int .i64 i2] 67)).alloc (by simp; omega) (.cells #[.int .i64 0, .int .i64 0] 122)
  have hv := volts_walk per b0 b1 b2 b3 b4 b5 A n c es i0 i1 i2 k _ ((hE.below hb0).more hb0.size) HN.out hm
  obtain ⟨v0, e0⟩ : ∃ v0, voltP per [b0, b1, b2, b3, b4, b5] es 0 i0 k = v0 := ⟨_, rfl⟩
  obtain ⟨v1, e1⟩ : ∃ v1, voltP per [b0, b1, b2, b3, b4, b5] es 1 i1 k = v1 := ⟨_, rfl⟩
  obtain ⟨v2, e2⟩ : ∃ v2, voltP per [b0, b1, b2, b3, b4, b5] es 2 i2 k = v2 := ⟨_, rfl⟩
  have d0 := @voltP_bd per [b0, b1, b2, b3, b4, b5] es 0 i0 k
  have d1 := @voltP_bd per [b0, b1, b2, b3, b4, b5] es 1 i1 k
  have d2 := @voltP_bd per [b0, b1, b2, b3, b4, b5] es 2 i2 k
  have hz0 := @voltP_err per [b0, b1, b2, b3, b4, b5] es 0 i0 k
  have hz1 := @voltP_err per [b0, b1, b2, b3, b4, b5] es 1 i1 k
  have hz2 := @voltP_err per [b0, b1, b2, b3, b4, b5] es 2 i2 k
  rw [e0] at d0 hz0
  rw [e1] at d1 hz1
  rw [e2] at d2 hz2
  rw [e0, e1, e2] at hv ⊢
  clear e0 e1 e2
  by_cases he : err per [b0, b1, b2, b3, b4, b5] es = 0
  · rw [he, errV_zero] at hv
    have HV := hide hv
    have HE := Lib.hid he
    clear hv he hz0 hz1 hz2
    go_enter Tryz.func89, Tryz.ntmps89
    go_wp2_with fail
    refine (unhide HV).mono ?_
    rintro e w1 ⟨rfl, hb1⟩
    have hbb := hb0.trans (hb1.mono hb0.size)
    have g2 := (Blk.new' (w := (w.alloc (.cells #[.int .i64 per, .bool b0, .bool b1, .bool b2, .bool b3, .bool b4, .bool b5, .slice A n c] 51)).alloc (.cells #[.int .i64 i0, .int .i64 i1, .int .i64 i2] 67)) (t := 122) (cs := #[.int .i64 0, .int .i64 0]) (g := w.heap.size + 1 + 1) (by simp)).below hb1 (by simp)
    have hsz : w.heap.size + 1 + 1 < w1.heap.size := g2.lt
    clear hb0 hb1 HV
    go_wp2_with fail
    refine (forward_walk v0 v1 v2 _ (by omega) (by omega) (by omega) (by omega) (by omega) (by omega)).mono ?_
    rintro e w2 ⟨rfl, hb2⟩
    have hbc := (hbb.alloc hbb.size (.cells #[.int .i64 v0, .int .i64 v1, .int .i64 v2] 67)).trans (hb2.mono (by simp; omega))
    have g3 := (g2.alloc (.cells #[.int .i64 v0, .int .i64 v1, .int .i64 v2] 67)).below hb2 (by simp; omega)
    obtain ⟨y0, y1⟩ := g3.c2
    have f0 := g3.frozen 0
    have f1 := g3.frozen 1
    clear hb2 g2
    go_wp2
    refine bodyPost_ret (ret_cell_tmp rfl rfl (load_ab ((g3.set_ 0 _).set_ 1 _))) rfl ⟨?_, (hbc.setCell (by simp; omega) _).setCell (by simp; omega) _⟩
    rw [HE.out, errV_zero]
    rfl
  · rw [errV_ne he] at hv
    have HV := hide hv
    have HE := Lib.hid he
    obtain rfl := hz0 he
    obtain rfl := hz1 he
    obtain rfl := hz2 he
    clear hv he hz0 hz1 hz2
    go_enter Tryz.func89, Tryz.ntmps89
    go_wp2_with fail
    refine (unhide HV).mono ?_
    rintro e w1 ⟨rfl, hb1⟩
    have hbb := hb0.trans (hb1.mono hb0.size)
    have g2 := (Blk.new' (w := (w.alloc (.cells #[.int .i64 per, .bool b0, .bool b1, .bool b2, .bool b3, .bool b4, .bool b5, .slice A n c] 51)).alloc (.cells #[.int .i64 i0, .int .i64 i1, .int .i64 i2] 67)) (t := 122) (cs := #[.int .i64 0, .int .i64 0]) (g := w.heap.size + 1 + 1) (by simp)).below hb1 (by simp)
    have hsz : w.heap.size + 1 + 1 < w1.heap.size := g2.lt
    obtain ⟨y0, y1⟩ := g2.c2
    have f0 := g2.frozen 0
    have f1 := g2.frozen 1
    clear hb0 hb1 HV
    go_wp2
    refine bodyPost_ret (ret_cell_tmp rfl rfl (load_ab (((g2.set_ 0 _).set_ 1 _).alloc _))) rfl ⟨?_, ((hbb.setCell (by simp; omega) _).setCell (by simp; omega) _).alloc (by simp; omega) _⟩
    rw [errV_ne HE.out]
    rfl

set_option maxRecDepth 100000 in
set_option maxHeartbeats 1600000 in
theorem rvector_walk (per : Int) (b0 b1 b2 b3 b4 b5 : Bool) (A : Option Addr) (n c : Nat) (es : List Ed) (i0 i1 i2 k : Int) (w : World) (hE : Sl w w.heap.size 3 A (es.map Ed.row)) (hn : n = es.length) (hm : n ≤ 1000000) (he : err per [b0, b1, b2, b3, b4, b5] es = 0) :
    Calls Tryz.prog 54 #[.agg #[.int .i64 per, .bool b0, .bool b1, .bool b2, .bool b3, .bool b4, .bool b5, .slice A n c], .agg #[.int .i64 i0, .int .i64 i1, .int .i64 i2], .int .i64 k] w fun e w' =>
      e = .returned (.agg #[.int .i64 (fwdA (voltP per [b0, b1, b2, b3, b4, b5] es 0 i0 k) (voltP per [b0, b1, b2, b3, b4, b5] es 1 i1 k) (voltP per [b0, b1, b2, b3, b4, b5] es 2 i2 k)), .int .i64 (fwdB (voltP per [b0, b1, b2, b3, b4, b5] es 1 i1 k) (voltP per [b0, b1, b2, b3, b4, b5] es 2 i2 k))]) ∧ Below w.heap.size w w' := by
  have HN := Lib.hid hn
  clear hn
  have hb0 := (((Below.refl w.heap.size w).alloc (Nat.le_refl _) (.cells #[.int .i64 per, .bool b0, .bool b1, .bool b2, .bool b3, .bool b4, .bool b5, .slice A n c] 51)).alloc (by simp) (.cells #[.int .i64 i0, .int .i64 i1, .int .i64 i2] 67)).alloc (by simp; omega) (.cells #[.int .i64 0, .int .i64 0] 122)
  have hv := rvolts_walk per b0 b1 b2 b3 b4 b5 A n c es i0 i1 i2 k _ ((hE.below hb0).more hb0.size) HN.out hm he
  obtain ⟨v0, e0⟩ : ∃ v0, voltP per [b0, b1, b2, b3, b4, b5] es 0 i0 k = v0 := ⟨_, rfl⟩
  obtain ⟨v1, e1⟩ : ∃ v1, voltP per [b0, b1, b2, b3, b4, b5] es 1 i1 k = v1 := ⟨_, rfl⟩
  obtain ⟨v2, e2⟩ : ∃ v2, voltP per [b0, b1, b2, b3, b4, b5] es 2 i2 k = v2 := ⟨_, rfl⟩
  have d0 := @voltP_bd per [b0, b1, b2, b3, b4, b5] es 0 i0 k
  have d1 := @voltP_bd per [b0, b1, b2, b3, b4, b5] es 1 i1 k
  have d2 := @voltP_bd per [b0, b1, b2, b3, b4, b5] es 2 i2 k
  have hz0 := @voltP_err per [b0, b1, b2, b3, b4, b5] es 0 i0 k
  have hz1 := @voltP_err per [b0, b1, b2, b3, b4, b5] es 1 i1 k
  have hz2 := @voltP_err per [b0, b1, b2, b3, b4, b5] es 2 i2 k
  rw [e0] at d0 hz0
  rw [e1] at d1 hz1
  rw [e2] at d2 hz2
  rw [e0, e1, e2] at hv ⊢
  clear e0 e1 e2
  have HV := hide hv
  clear hv hz0 hz1 hz2 he
  go_enter Tryz.func54, Tryz.ntmps54
  go_wp2_with fail
  refine (unhide HV).mono ?_
  rintro e w1 ⟨rfl, hb1⟩
  have hbb := hb0.trans (hb1.mono hb0.size)
  have g2 := (Blk.new' (w := (w.alloc (.cells #[.int .i64 per, .bool b0, .bool b1, .bool b2, .bool b3, .bool b4, .bool b5, .slice A n c] 51)).alloc (.cells #[.int .i64 i0, .int .i64 i1, .int .i64 i2] 67)) (t := 122) (cs := #[.int .i64 0, .int .i64 0]) (g := w.heap.size + 1 + 1) (by simp)).below hb1 (by simp)
  have hsz : w.heap.size + 1 + 1 < w1.heap.size := g2.lt
  clear hb0 hb1 HV
  go_wp2_with fail
  refine (rforward_walk v0 v1 v2 _ (by omega) (by omega) (by omega) (by omega) (by omega) (by omega)).mono ?_
  rintro e w2 ⟨rfl, hb2⟩
  have hbc := (hbb.alloc hbb.size (.cells #[.int .i64 v0, .int .i64 v1, .int .i64 v2] 67)).trans (hb2.mono (by simp; omega))
  have g3 := (g2.alloc (.cells #[.int .i64 v0, .int .i64 v1, .int .i64 v2] 67)).below hb2 (by simp; omega)
  obtain ⟨y0, y1⟩ := g3.c2
  have f0 := g3.frozen 0
  have f1 := g3.frozen 1
  clear hb2 g2
  go_wp2
  refine bodyPost_ret (ret_cell rfl rfl (load_ab ((g3.set_ 0 _).set_ 1 _))) rfl ⟨rfl, (hbc.setCell (by simp; omega) _).setCell (by simp; omega) _⟩


end Go.Proofs.YtpfkiohknpeifaaGreat.I

namespace Go.Proofs.YtpfkiohknpeifaaGreat.I
open Go.RowKit

def exEs : List Ed := [⟨30, 0, false⟩, ⟨40, 1, true⟩]
theorem ex_err : err 100 [true, false, false, false, false, false] exEs = 0 := by decide +kernel
theorem ex_v0 : voltP 100 [true, false, false, false, false, false] exEs 0 (-5) 24000 = 9600 := by decide +kernel
theorem ex_v1 : voltP 100 [true, false, false, false, false, false] exEs 1 3 24000 = 0 := by decide +kernel
theorem ex_v2 : voltP 100 [true, false, false, false, false, false] exEs 2 2 24000 = 0 := by decide +kernel
theorem ex_draw : drawP 100 [true, false, false, false, false, false] exEs (-5) 3 2 = -2 := by decide +kernel

theorem awake_eq (w : World) : (binOp .eql 67 (.agg #[.int .i64 9600, .int .i64 0, .int .i64 0]) (.agg #[.int .i64 9600, .int .i64 0, .int .i64 0])).run Tryz.prog w = .ok (.bool true) w := by kernel_rfl

end Go.Proofs.YtpfkiohknpeifaaGreat.I

namespace Go.Proofs.YtpfkiohknpeifaaGreat.I
open Go.RowKit

def shrt (per : Int) (on : List Bool) (es : List Ed) : Bool := if chk per es = 0 then shortR per on es else false
theorem shrt_ok {per : Int} {on : List Bool} {es : List Ed} (h : chk per es = 0) : shrt per on es = shortR per on es := if_pos h
theorem shrt_no {per : Int} {on : List Bool} {es : List Ed} (h : chk per es ≠ 0) : shrt per on es = false := if_neg h

set_option maxHeartbeats 800000 in
theorem short_walk (per : Int) (b0 b1 b2 b3 b4 b5 : Bool) (A : Option Addr) (n c : Nat) (es : List Ed) (w : World) (hE : Sl w w.heap.size 3 A (es.map Ed.row)) (hn : n = es.length) (hm : n ≤ 1000000) :
    Calls Tryz.prog 38 #[.agg #[.int .i64 per, .bool b0, .bool b1, .bool b2, .bool b3, .bool b4, .bool b5, .slice A n c]] w fun e w' =>
      e = .returned (.tuple #[.bool (shrt per [b0, b1, b2, b3, b4, b5] es), errV (chk per es)]) ∧ Below w.heap.size w w' := by
  have HN := Lib.hid hn
  clear hn
  have hb0 := (Below.refl w.heap.size w).alloc (Nat.le_refl _) (.cells #[.int .i64 per, .bool b0, .bool b1, .bool b2, .bool b3, .bool b4, .bool b5, .slice A n c] 51)
  have g0 := Blk.new w 51 #[.int .i64 per, .bool b0, .bool b1, .bool b2, .bool b3, .bool b4, .bool b5, .slice A n c]
  have hck := chk_walk per b0 b1 b2 b3 b4 b5 A n c es _ ((hE.below hb0).more hb0.size) HN.out hm
  by_cases hc : chk per es = 0
  · obtain ⟨hp1, hp2, hv⟩ := chk_zero hc
    rw [hc, errV_zero] at hck
    have HC := hide hck
    have H0 := Lib.hid hc
    clear hck hc
    go_enter Tryz.func38, Tryz.ntmps38
    go_wp2_with fail
    refine (unhide HC).mono ?_
    rintro e w1 ⟨rfl, hb1⟩
    have hb2 := hb0.trans (hb1.mono hb0.size)
    have g01 := g0.below hb1 g0.lt
    obtain ⟨x0, x1, x2, x3, x4, x5, x6, x7⟩ := g01.c8
    obtain ⟨sp, hsp⟩ : ∃ sp, spansOf per [b0, b1, b2, b3, b4, b5] es = sp := ⟨_, rfl⟩
    have hrows := spans_rows (on := [b0, b1, b2, b3, b4, b5]) hv hp1 rfl
    have hmem := spans_mem (on := [b0, b1, b2, b3, b4, b5]) hv hp1
    have hsw := spans_walk per b0 b1 b2 b3 b4 b5 A n c es w1 ((hE.below hb2).more hb2.size) HN.out hm hv hp1 hp2
    have hsplen := spans_length (per := per) (on := [b0, b1, b2, b3, b4, b5]) (es := es)
    have hserr := short_eq (on := [b0, b1, b2, b3, b4, b5]) H0.out
    rw [hsp] at hrows hmem hsw hsplen hserr
    have HSW := hide hsw
    have HM := Lib.hid hmem
    have HR := Lib.hid hrows
    have hspl : sp.length ≤ 1000001 := by have := HN.out; omega
    have HSE := Lib.hid hserr
    clear hb0 hb1 g0 HC hsw hmem hrows hsp hsplen hserr
    go_wp2_with fail
    refine (unhide HSW).mono ?_
    rintro e w2 ⟨v, rfl, hown, hb3⟩
    obtain ⟨A', c', rfl, hS, _⟩ := Sl.of_own hown HR.out (by simp)
    have hb4 := hb2.trans (hb3.mono hb2.size)
    clear hb3 hb2 x0 x1 x2 x3 x4 x5 x6 x7 hown HSW
    go_wp2_with fail
    refine (shorted_walk A' sp.length c' sp w2 hS rfl hspl (fun x hx => (HM.out x hx).2)).mono ?_
    rintro e w3 ⟨rfl, hb5⟩
    have hb6 := hb4.trans (hb5.mono hb4.size)
    rw [HSE.out]
    go_wp2
    go_ret2
    exact ⟨by rw [H0.out, errV_zero, shrt_ok H0.out]; rfl, hb6⟩
  · have H0 := Lib.hid hc
    rw [errV_ne hc] at hck
    have HC := hide hck
    clear hck hc
    go_enter Tryz.func38, Tryz.ntmps38
    go_wp2_with fail
    refine (unhide HC).mono ?_
    rintro e w1 ⟨rfl, hb1⟩
    have hb2 := hb0.trans (hb1.mono hb0.size)
    go_wp2
    go_ret2
    exact ⟨by rw [errV_ne H0.out, shrt_no H0.out]; rfl, hb2⟩

end Go.Proofs.YtpfkiohknpeifaaGreat.I

namespace Go.Proofs.YtpfkiohknpeifaaGreat.I
open Go.RowKit

theorem edgeOn_walk (a b : Int) (o : Bool) (w : World) : Calls Tryz.prog 134 #[.agg #[.int .i64 a, .int .i64 b, .bool o]] w fun e w' => e = .returned (.bool o) ∧ Below w.heap.size w w' := by
  go_enter Tryz.func134, Tryz.ntmps134
  go_wp2
  go_ret
  exact ⟨rfl, (Below.refl _ _).alloc (Nat.le_refl _) _⟩

/-- No edge turns a switch on. -/
def noneOn (es : List Ed) : Bool := es.all fun e => !e.o
theorem noneOn_hit {es : List Ed} {k : Nat} {e : Ed} (h : es[k]? = some e) (ho : e.o = true) : noneOn es = false := by
  obtain ⟨h1, rfl⟩ := List.getElem?_eq_some_iff.1 h
  unfold noneOn
  rw [Bool.eq_false_iff]
  intro hh
  rw [List.all_eq_true] at hh
  have := hh _ (List.getElem_mem h1)
  rw [ho] at this
  cases this
theorem noneOn_all {es : List Ed} (h : ∀ (j : Nat) (x : Ed), es[j]? = some x → x.o = false) : noneOn es = true := by
  unfold noneOn
  rw [List.all_eq_true]
  intro x hx
  obtain ⟨i, hi, rfl⟩ := List.getElem_of_mem hx
  rw [h i _ (List.getElem?_eq_getElem hi)]
  rfl

set_option maxHeartbeats 800000 in
theorem indexFunc_walk (A : Option Addr) (n c : Nat) (es : List Ed) (w : World) (hE : Sl w w.heap.size 3 A (es.map Ed.row)) (hn : n = es.length) (hm : n ≤ 1000000) :
    Calls Tryz.prog 144 #[.slice A n c, .func (.func 134) #[] #[]] w fun e w' => (∃ i : Int, e = .returned (.int .i64 i) ∧ (0 ≤ i ↔ noneOn es = false) ∧ i < 1000001 ∧ -2 < i) ∧ Below w.heap.size w w' := by
  have HN := Lib.hid hn
  clear hn
  go_enter Tryz.func144, Tryz.ntmps144
  go_wp2
  go_loopw [8] (fun i wr => ∃ k : Nat, k ≤ n ∧ i = .int .i64 k ∧ Hid (∀ (j : Nat) (x : Ed), j < k → es[j]? = some x → x.o = false) ∧ Below w.heap.size w wr) (fun i _ => n - (intOf i).toNat)
  case atStart => exact ⟨0, Nat.zero_le _, rfl, fun j x h => by omega, Below.refl _ _⟩
  case round =>
    obtain ⟨k, hk, rfl, hg, hb⟩ := hrel
    by_cases hlt : k < n
    · have hkl : k < es.length := by have := HN.out; omega
      obtain ⟨⟨et, es', eo⟩, he⟩ : ∃ e, es[k]? = some e := ⟨_, List.getElem?_eq_getElem hkl⟩
      obtain ⟨ad, p, rfl, hpa, hpb, e0, e1, e2⟩ := (hE.below hb).three (k := k) (x := .int .i64 et) (y := .int .i64 es') (z := .bool eo) (by rw [List.getElem?_map, he]; rfl)
      have HE := Lib.hid he
      clear he
      go_wp2_with fail
      refine (edgeOn_walk et es' eo _).mono ?_
      rintro e w1 ⟨rfl, hb1⟩
      have hb2 := hb.trans (hb1.mono hb.size)
      cases eo
      · go_wp2
        go_roundw
        case rel =>
          refine ⟨k + 1, by omega, by go_num, fun j x hj hx => ?_, hb2⟩
          by_cases hjk : j = k
          · subst hjk
            rw [HE.out] at hx
            injection hx with hx
            subst hx
            rfl
          · exact hg.out j x (by omega) hx
        case measure => simp [intOf]; omega
      · go_wp2
        go_ret
        refine ⟨⟨k, rfl, ?_, by omega, by omega⟩, hb2⟩
        rw [noneOn_hit HE.out rfl]
        simp
    · have HF : Hid (noneOn es = true) := noneOn_all fun j x hx => hg.out j x (by have := (List.getElem?_eq_some_iff.1 hx).1; have := HN.out; omega) hx
      go_wp2
      go_ret
      refine ⟨⟨-1, rfl, ?_, by omega, by omega⟩, hb⟩
      rw [HF.out]
      simp

set_option maxHeartbeats 400000 in
theorem containsFunc_walk (A : Option Addr) (n c : Nat) (es : List Ed) (w : World) (hE : Sl w w.heap.size 3 A (es.map Ed.row)) (hn : n = es.length) (hm : n ≤ 1000000) :
    Calls Tryz.prog 133 #[.slice A n c, .func (.func 134) #[] #[]] w fun e w' => e = .returned (.bool (!noneOn es)) ∧ Below w.heap.size w w' := by
  have HN := Lib.hid hn
  clear hn
  go_enter Tryz.func133, Tryz.ntmps133
  go_wp2_with fail
  refine (indexFunc_walk A n c es w hE HN.out hm).mono ?_
  rintro e w1 ⟨⟨i, rfl, hi, hi1, hi2⟩, hb⟩
  cases hno : noneOn es
  · have h0 : 0 ≤ i := hi.2 hno
    have HNO := Lib.hid hno
    clear hno hi
    go_wp2
    go_ret
    exact ⟨by simp [HNO.out], hb⟩
  · have h0 : ¬ 0 ≤ i := fun h => by rw [hi.1 h] at hno; cases hno
    have HNO := Lib.hid hno
    clear hno hi
    go_wp2
    go_ret
    exact ⟨by simp [HNO.out]; omega, hb⟩

theorem eq_zero6 (b0 b1 b2 b3 b4 b5 : Bool) (w : World) : (binOp .eql 48 (.agg #[.bool b0, .bool b1, .bool b2, .bool b3, .bool b4, .bool b5]) (.agg #[.bool false, .bool false, .bool false, .bool false, .bool false, .bool false])).run Tryz.prog w = .ok (.bool (!(b0 || b1 || b2 || b3 || b4 || b5))) w := by
  cases b0 <;> cases b1 <;> cases b2 <;> cases b3 <;> cases b4 <;> cases b5 <;> kernel_rfl

def allOff (b0 b1 b2 b3 b4 b5 : Bool) (es : List Ed) : Bool := !(b0 || b1 || b2 || b3 || b4 || b5) && noneOn es

set_option maxHeartbeats 400000 in
theorem allOff_walk (per : Int) (b0 b1 b2 b3 b4 b5 : Bool) (A : Option Addr) (n c : Nat) (es : List Ed) (w : World) (hE : Sl w w.heap.size 3 A (es.map Ed.row)) (hn : n = es.length) (hm : n ≤ 1000000) :
    Calls Tryz.prog 90 #[.agg #[.int .i64 per, .bool b0, .bool b1, .bool b2, .bool b3, .bool b4, .bool b5, .slice A n c]] w fun e w' => e = .returned (.bool (allOff b0 b1 b2 b3 b4 b5 es)) ∧ Below w.heap.size w w' := by
  have HN := Lib.hid hn
  clear hn
  have hb0 := (Below.refl w.heap.size w).alloc (Nat.le_refl _) (.cells #[.int .i64 per, .bool b0, .bool b1, .bool b2, .bool b3, .bool b4, .bool b5, .slice A n c] 51)
  have heq := eq_zero6 b0 b1 b2 b3 b4 b5
  obtain ⟨z, hz⟩ : ∃ z, (b0 || b1 || b2 || b3 || b4 || b5) = z := ⟨_, rfl⟩
  rw [show allOff b0 b1 b2 b3 b4 b5 es = (!(b0 || b1 || b2 || b3 || b4 || b5) && noneOn es) from rfl]
  rw [hz] at heq ⊢
  clear hz
  cases z
  · go_enter Tryz.func90, Tryz.ntmps90
    go_wp2_with fail
    refine (containsFunc_walk A n c es _ ((hE.below hb0).more hb0.size) HN.out hm).mono ?_
    rintro e w1 ⟨rfl, hb1⟩
    have hb2 := hb0.trans (hb1.mono hb0.size)
    go_wp2
    go_ret
    exact ⟨by simp, hb2⟩
  · go_enter Tryz.func90, Tryz.ntmps90
    go_wp2
    go_ret
    exact ⟨rfl, hb0⟩

end Go.Proofs.YtpfkiohknpeifaaGreat.I
