/- The walks of the two checks of gate signals. -/
import Derived.Test.YtgnojdiecgfeaaaBase
namespace Go.Proofs.Ytgnojdiecgfeaaa
open Go.RowKit

theorem num_nil (w : World) : Calls Try.prog 22 #[.nilIface] w fun e w' => e = .returned (.int .i64 0) ∧ w = w' := by
  go_enter Try.func22, Try.ntmps22
  go_wp2
  go_ret
  exact ⟨rfl, rfl⟩

set_option maxHeartbeats 400000 in
theorem chk_walk (per : Int) (b0 b1 b2 b3 b4 b5 : Bool) (A : Option Addr) (n c : Nat) (es : List Ed) (w : World) (hE : Sl w w.heap.size 3 A (es.map Ed.row)) (hn : n = es.length) (hm : n ≤ 1000000) :
    Calls Try.prog 28 #[.agg #[.int .i64 per, .bool b0, .bool b1, .bool b2, .bool b3, .bool b4, .bool b5, .slice A n c]] w fun e w' => e = .returned (errV (chk per es)) ∧ Below w.heap.size w w' := by
  have HN := Lib.hid hn
  clear hn
  rcases Bool.eq_false_or_eq_true (perOk per) with hp | hp
  case inr =>
    have h3 := chk_range (es := es) hp
    have hor : per < 64 ∨ 4096 < per := by
      rw [Bool.eq_false_iff] at hp
      simp only [perOk, ne_eq, Bool.and_eq_true, decide_eq_true_eq] at hp
      omega
    have H3 := Lib.hid h3
    clear h3 hp
    rcases hor with hor | hor
    all_goals
      go_enter Try.func28, Try.ntmps28
      go_wp2
      go_ret
      exact ⟨by rw [H3.out]; rfl, (Below.refl _ _).alloc (Nat.le_refl _) _⟩
  have hp1 : 64 ≤ per ∧ per ≤ 4096 := by simpa [perOk] using hp
  obtain ⟨hp1, hp2⟩ := hp1
  have HP := Lib.hid hp
  clear hp
  go_enter Try.func28, Try.ntmps28
  go_wp2
  go_loopw [18] (fun i wr => ∃ k : Nat, k ≤ n ∧ i = .int .i64 k ∧ Hid (∀ j, j < k → good per es j = true) ∧ Below (w.heap.size + 1) (w.alloc (.cells #[.int .i64 per, .bool b0, .bool b1, .bool b2, .bool b3, .bool b4, .bool b5, .slice A n c] 25)) wr) (fun i _ => n - (intOf i).toNat)
  case atStart => exact ⟨0, Nat.zero_le _, rfl, fun j h => by omega, Below.refl _ _⟩
  case round =>
    obtain ⟨k, hk, rfl, hg, hb⟩ := hrel
    have h0 : wr.cell? ⟨w.heap.size, 0, none⟩ = some (.int .i64 per) := cell_below hb (by simp) (by omega)
    have h7 : wr.cell? ⟨w.heap.size, 7, none⟩ = some (.slice A n c) := cell_below hb (by simp) (by omega)
    have hsz : w.heap.size < wr.heap.size := by have := hb.size; simp at this; omega
    by_cases hlt : k < n
    · have hkl : k < es.length := by have := HN.out; omega
      obtain ⟨e, he⟩ : ∃ e, es[k]? = some e := ⟨_, List.getElem?_eq_getElem hkl⟩
      have hbx : Below w.heap.size w wr := ((Below.refl w.heap.size w).alloc (Nat.le_refl _) _).trans (hb.mono (by omega))
      have hE1 := hE.below hbx
      obtain ⟨ad, p, rfl, hpa, hpb, c0, c1, c2⟩ := hE1.three (k := k) (x := .int .i64 e.t) (y := .int .i64 e.s) (z := .bool e.o) (by rw [List.getElem?_map, he]; rfl)
      have hpb1 : p.block < wr.heap.size := by omega
      by_cases hk0 : 0 < k
      · obtain ⟨q, hq⟩ : ∃ q, es[k - 1]? = some q := ⟨_, List.getElem?_eq_getElem (by omega)⟩
        obtain ⟨ad', p', hae, hpa', hpb', d0, d1, d2⟩ := hE1.three (k := k - 1) (x := .int .i64 q.t) (y := .int .i64 q.s) (z := .bool q.o) (by rw [List.getElem?_map, hq]; rfl)
        injection hae with hae
        subst hae
        have hpb1' : p'.block < wr.heap.size := by omega
        have HG : Hid (good per es k = (edIn per e && edLt q e)) := by
          obtain ⟨j, rfl⟩ : ∃ j, k = j + 1 := ⟨k - 1, by omega⟩
          exact good_succ he hq
        clear he hq
        go_wp2
        all_goals first
          | (go_ret
             exact ⟨congrArg Ending.returned (congrArg errV (chk_bad HP.out hkl (by
                rw [HG.out, Bool.eq_false_iff]; intro hh
                simp only [edIn, edLt, Bool.and_eq_true, Bool.or_eq_true, decide_eq_true_eq] at hh
                omega)).symm), by repeat (first | exact hbx | refine Below.alloc ?_ (by first | omega | (simp; omega)) _)⟩)
          | (go_roundw
             case rel => exact ⟨k + 1, by omega, by go_num, (fun j hj => by
                by_cases hjk : j = k
                · subst hjk
                  rw [HG.out]
                  simp only [edIn, edLt, Bool.and_eq_true, Bool.or_eq_true, decide_eq_true_eq]
                  omega
                · exact hg.out j (by omega)), by repeat (first | exact hb | refine Below.alloc ?_ (by first | omega | (simp; omega)) _)⟩
             case measure => simp [intOf]; omega)
      · have HG : Hid (good per es k = edIn per e) := by
          obtain rfl : k = 0 := by omega
          exact good_zero he
        clear he
        go_wp2
        all_goals first
          | (go_ret
             exact ⟨congrArg Ending.returned (congrArg errV (chk_bad HP.out hkl (by
                rw [HG.out, Bool.eq_false_iff]; intro hh
                simp only [edIn, Bool.and_eq_true, decide_eq_true_eq] at hh
                omega)).symm), by repeat (first | exact hbx | refine Below.alloc ?_ (by first | omega | (simp; omega)) _)⟩)
          | (go_roundw
             case rel => exact ⟨k + 1, by omega, by go_num, (fun j hj => by
                by_cases hjk : j = k
                · subst hjk
                  rw [HG.out]
                  simp only [edIn, Bool.and_eq_true, decide_eq_true_eq]
                  omega
                · exact hg.out j (by omega)), by repeat (first | exact hb | refine Below.alloc ?_ (by first | omega | (simp; omega)) _)⟩
             case measure => simp [intOf]; omega)
    · go_wp2
      go_ret
      exact ⟨congrArg Ending.returned (errV_zero.symm.trans (congrArg errV (chk_good HP.out (fun i hi => hg.out i (by have := HN.out; omega))).symm)), ((Below.refl w.heap.size w).alloc (Nat.le_refl _) _).trans (hb.mono (by omega))⟩

set_option maxHeartbeats 400000 in
theorem rchk_walk (per : Int) (b0 b1 b2 b3 b4 b5 : Bool) (A : Option Addr) (n c : Nat) (es : List Ed) (w : World) (hE : Sl w w.heap.size 3 A (es.map Ed.row)) (hn : n = es.length) (hm : n ≤ 1000000) :
    Calls Try.prog 26 #[.agg #[.int .i64 per, .bool b0, .bool b1, .bool b2, .bool b3, .bool b4, .bool b5, .slice A n c]] w fun e w' => e = .returned (.int .i64 (chk per es)) ∧ Below w.heap.size w w' := by
  have HN := Lib.hid hn
  clear hn
  rcases Bool.eq_false_or_eq_true (perOk per) with hp | hp
  case inr =>
    have h3 := chk_range (es := es) hp
    have hor : per < 64 ∨ 4096 < per := by
      rw [Bool.eq_false_iff] at hp
      simp only [perOk, ne_eq, Bool.and_eq_true, decide_eq_true_eq] at hp
      omega
    have H3 := Lib.hid h3
    clear h3 hp
    rcases hor with hor | hor
    all_goals
      go_enter Try.func26, Try.ntmps26
      go_wp2
      go_ret
      exact ⟨by rw [H3.out]; rfl, (Below.refl _ _).alloc (Nat.le_refl _) _⟩
  have hp1 : 64 ≤ per ∧ per ≤ 4096 := by simpa [perOk] using hp
  obtain ⟨hp1, hp2⟩ := hp1
  have HP := Lib.hid hp
  clear hp
  go_enter Try.func26, Try.ntmps26
  go_wp2
  go_loopw [3] (fun i wr => ∃ k : Nat, k ≤ n ∧ i = .int .i64 k ∧ Hid (∀ j, j < k → good per es j = true) ∧ Below (w.heap.size + 1) (w.alloc (.cells #[.int .i64 per, .bool b0, .bool b1, .bool b2, .bool b3, .bool b4, .bool b5, .slice A n c] 25)) wr) (fun i _ => n - (intOf i).toNat)
  case atStart => exact ⟨0, Nat.zero_le _, rfl, fun j h => by omega, Below.refl _ _⟩
  case round =>
    obtain ⟨k, hk, rfl, hg, hb⟩ := hrel
    have h0 : wr.cell? ⟨w.heap.size, 0, none⟩ = some (.int .i64 per) := cell_below hb (by simp) (by omega)
    have h7 : wr.cell? ⟨w.heap.size, 7, none⟩ = some (.slice A n c) := cell_below hb (by simp) (by omega)
    have hsz : w.heap.size < wr.heap.size := by have := hb.size; simp at this; omega
    by_cases hlt : k < n
    · have hkl : k < es.length := by have := HN.out; omega
      obtain ⟨e, he⟩ : ∃ e, es[k]? = some e := ⟨_, List.getElem?_eq_getElem hkl⟩
      have hbx : Below w.heap.size w wr := ((Below.refl w.heap.size w).alloc (Nat.le_refl _) _).trans (hb.mono (by omega))
      have hE1 := hE.below hbx
      obtain ⟨ad, p, rfl, hpa, hpb, c0, c1, c2⟩ := hE1.three (k := k) (x := .int .i64 e.t) (y := .int .i64 e.s) (z := .bool e.o) (by rw [List.getElem?_map, he]; rfl)
      have hpb1 : p.block < wr.heap.size := by omega
      by_cases hk0 : 0 < k
      · obtain ⟨q, hq⟩ : ∃ q, es[k - 1]? = some q := ⟨_, List.getElem?_eq_getElem (by omega)⟩
        obtain ⟨ad', p', hae, hpa', hpb', d0, d1, d2⟩ := hE1.three (k := k - 1) (x := .int .i64 q.t) (y := .int .i64 q.s) (z := .bool q.o) (by rw [List.getElem?_map, hq]; rfl)
        injection hae with hae
        subst hae
        have hpb1' : p'.block < wr.heap.size := by omega
        have HG : Hid (good per es k = (edIn per e && edLt q e)) := by
          obtain ⟨j, rfl⟩ : ∃ j, k = j + 1 := ⟨k - 1, by omega⟩
          exact good_succ he hq
        clear he hq
        go_wp2
        all_goals first
          | (go_ret
             exact ⟨congrArg (fun x => Ending.returned (.int .i64 x)) ((chk_bad HP.out hkl (by
                rw [HG.out, Bool.eq_false_iff]; intro hh
                simp only [edIn, edLt, Bool.and_eq_true, Bool.or_eq_true, decide_eq_true_eq] at hh
                omega)).symm), by repeat (first | exact hbx | refine Below.alloc ?_ (by first | omega | (simp; omega)) _)⟩)
          | (go_roundw
             case rel => exact ⟨k + 1, by omega, by go_num, (fun j hj => by
                by_cases hjk : j = k
                · subst hjk
                  rw [HG.out]
                  simp only [edIn, edLt, Bool.and_eq_true, Bool.or_eq_true, decide_eq_true_eq]
                  omega
                · exact hg.out j (by omega)), by repeat (first | exact hb | refine Below.alloc ?_ (by first | omega | (simp; omega)) _)⟩
             case measure => simp [intOf]; omega)
      · have HG : Hid (good per es k = edIn per e) := by
          obtain rfl : k = 0 := by omega
          exact good_zero he
        clear he
        go_wp2
        all_goals first
          | (go_ret
             exact ⟨congrArg (fun x => Ending.returned (.int .i64 x)) ((chk_bad HP.out hkl (by
                rw [HG.out, Bool.eq_false_iff]; intro hh
                simp only [edIn, Bool.and_eq_true, decide_eq_true_eq] at hh
                omega)).symm), by repeat (first | exact hbx | refine Below.alloc ?_ (by first | omega | (simp; omega)) _)⟩)
          | (go_roundw
             case rel => exact ⟨k + 1, by omega, by go_num, (fun j hj => by
                by_cases hjk : j = k
                · subst hjk
                  rw [HG.out]
                  simp only [edIn, Bool.and_eq_true, decide_eq_true_eq]
                  omega
                · exact hg.out j (by omega)), by repeat (first | exact hb | refine Below.alloc ?_ (by first | omega | (simp; omega)) _)⟩
             case measure => simp [intOf]; omega)
    · go_wp2
      go_ret
      exact ⟨congrArg (fun x => Ending.returned (.int .i64 x)) (((chk_good HP.out (fun i hi => hg.out i (by have := HN.out; omega))).symm)), ((Below.refl w.heap.size w).alloc (Nat.le_refl _) _).trans (hb.mono (by omega))⟩

end Go.Proofs.Ytgnojdiecgfeaaa
