/- The walks of layer 24's small checks: within, isPeriod, sorted. -/
import Derived.Test.YtgnojdiecgfeaaaRes
namespace Go.Proofs.Ytgnojdiecgfeaaa
open Go.RowKit

theorem within_yes (n lo hi : Int) (h1 : lo ≤ n) (h2 : n ≤ hi) (w : World) : Calls Try.prog 64 #[.int .i64 n, .int .i64 lo, .int .i64 hi] w fun e w' => e = .returned (.bool true) ∧ w = w' := by
  go_enter Try.func64, Try.ntmps64
  go_wp2
  go_ret
  exact ⟨rfl, rfl⟩
theorem within_no (n lo hi : Int) (h : ¬ (lo ≤ n ∧ n ≤ hi)) (w : World) : Calls Try.prog 64 #[.int .i64 n, .int .i64 lo, .int .i64 hi] w fun e w' => e = .returned (.bool false) ∧ w = w' := by
  by_cases h1 : lo ≤ n
  · have h2 : hi < n := by omega
    clear h
    go_enter Try.func64, Try.ntmps64
    go_wp2
    go_ret
    exact ⟨congrArg (fun b => Ending.returned (.bool b)) (decide_eq_false (by omega)), rfl⟩
  · clear h
    go_enter Try.func64, Try.ntmps64
    go_wp2
    go_ret
    exact ⟨rfl, rfl⟩
theorem isPeriod_walk (n : Int) (w : World) : Calls Try.prog 71 #[.int .i64 n] w fun e w' => e = .returned (.bool (perOk n)) ∧ w = w' := by
  by_cases h : 64 ≤ n ∧ n ≤ 4096
  · have hp : Hid (perOk n = true) := by show _ = _; simp [perOk, h]
    go_enter Try.func71, Try.ntmps71
    go_wp2_with fail
    refine (within_yes n 64 4096 h.1 h.2 _).mono ?_
    rintro e w' ⟨rfl, rfl⟩
    go_wp2
    go_ret
    exact ⟨by rw [hp.out]; rfl, rfl⟩
  · have hp : Hid (perOk n = false) := by
      show _ = _
      rw [Bool.eq_false_iff]
      simp only [perOk, ne_eq, Bool.and_eq_true, decide_eq_true_eq]
      omega
    have HH := Lib.hid h
    clear h
    go_enter Try.func71, Try.ntmps71
    go_wp2_with fail
    refine (within_no n 64 4096 HH.out _).mono ?_
    rintro e w' ⟨rfl, rfl⟩
    go_wp2
    go_ret
    exact ⟨by rw [hp.out]; rfl, rfl⟩

set_option maxRecDepth 100000 in
set_option maxHeartbeats 1600000 in
theorem sorted_walk (per : Int) (A : Option Addr) (n c : Nat) (es : List Ed) (w : World) (hE : Sl w w.heap.size 3 A (es.map Ed.row)) (hn : n = es.length) (hm : n ≤ 1000000) (hp1 : 64 ≤ per) (hp2 : per ≤ 4096) :
    Calls Try.prog 72 #[.slice A n c, .int .i64 per] w fun e w' => e = .returned (.bool (shape per es)) ∧ Below w.heap.size w w' := by
  have HN := Lib.hid hn
  clear hn
  go_enter Try.func72, Try.ntmps72
  go_wp2
  go_loopw [9] (fun i wr => ∃ k : Nat, k ≤ n ∧ i = .int .i64 k ∧ Hid (∀ j, j < k → good per es j = true) ∧ Below w.heap.size w wr) (fun i _ => n - (intOf i).toNat)
  case atStart => exact ⟨0, Nat.zero_le _, rfl, fun j h => by omega, Below.refl _ _⟩
  case round =>
    obtain ⟨k, hk, rfl, hg, hb⟩ := hrel
    have hsz := hb.size
    by_cases hlt : k < n
    · have hkl : k < es.length := by have := HN.out; omega
      obtain ⟨e, he⟩ : ∃ e, es[k]? = some e := ⟨_, List.getElem?_eq_getElem hkl⟩
      have hE1 := hE.below hb
      obtain ⟨ad, p, rfl, hpa, hpb, c0, c1, c2⟩ := hE1.three (k := k) (x := .int .i64 e.t) (y := .int .i64 e.s) (z := .bool e.o) (by rw [List.getElem?_map, he]; rfl)
      have hpb1 : p.block < wr.heap.size := by omega
      have hba := hb.alloc hsz (.cells #[.int .i64 e.t, .int .i64 e.s, .bool e.o] 37)
      have HKL := Lib.hid hkl
      clear hkl
      by_cases hA : 0 ≤ e.t ∧ e.t ≤ per - 1
      case neg =>
        have hF : Hid (shape per es = false) := by
          refine shape_false HKL.out (i := k) ?_
          rcases Nat.eq_zero_or_pos k with h0 | h0
          · subst h0
            rw [good_zero he, Bool.eq_false_iff]
            simp only [edIn, ne_eq, Bool.and_eq_true, decide_eq_true_eq]
            omega
          · obtain ⟨j, rfl⟩ : ∃ j, k = j + 1 := ⟨k - 1, by omega⟩
            rw [good_succ he (List.getElem?_eq_getElem (by have := HKL.out; omega)), Bool.eq_false_iff]
            simp only [edIn, ne_eq, Bool.and_eq_true, decide_eq_true_eq]
            omega
        have HA := Lib.hid hA
        clear he hA
        go_wp2_with fail
        refine (within_no e.t 0 (per - 1) HA.out _).mono ?_
        rintro e' w' ⟨rfl, rfl⟩
        go_wp2
        go_ret
        exact ⟨by rw [hF.out]; rfl, hba⟩
      case pos =>
      by_cases hB : 0 ≤ e.s ∧ e.s ≤ 5
      case neg =>
        have hF : Hid (shape per es = false) := by
          refine shape_false HKL.out (i := k) ?_
          rcases Nat.eq_zero_or_pos k with h0 | h0
          · subst h0
            rw [good_zero he, Bool.eq_false_iff]
            simp only [edIn, ne_eq, Bool.and_eq_true, decide_eq_true_eq]
            omega
          · obtain ⟨j, rfl⟩ : ∃ j, k = j + 1 := ⟨k - 1, by omega⟩
            rw [good_succ he (List.getElem?_eq_getElem (by have := HKL.out; omega)), Bool.eq_false_iff]
            simp only [edIn, ne_eq, Bool.and_eq_true, decide_eq_true_eq]
            omega
        have HB := Lib.hid hB
        obtain ⟨hA1, hA2⟩ := hA
        clear he hB
        go_wp2_with fail
        refine (within_yes e.t 0 (per - 1) hA1 hA2 _).mono ?_
        rintro e' w' ⟨rfl, rfl⟩
        go_wp2_with fail
        refine (within_no e.s 0 5 HB.out _).mono ?_
        rintro e' w' ⟨rfl, rfl⟩
        go_wp2
        go_ret
        exact ⟨by rw [hF.out]; rfl, hba⟩
      case pos =>
      obtain ⟨hA1, hA2⟩ := hA
      obtain ⟨hB1, hB2⟩ := hB
      have hin : Hid (edIn per e = true) := by
        show _ = _
        simp only [edIn, Bool.and_eq_true, decide_eq_true_eq]
        omega
      by_cases hk0 : 0 < k
      · obtain ⟨q, hq⟩ : ∃ q, es[k - 1]? = some q := ⟨_, List.getElem?_eq_getElem (by have := HKL.out; omega)⟩
        obtain ⟨ad', p', hae, hpa', hpb', d0, d1, d2⟩ := hE1.three (k := k - 1) (x := .int .i64 q.t) (y := .int .i64 q.s) (z := .bool q.o) (by rw [List.getElem?_map, hq]; rfl)
        injection hae with hae
        subst hae
        have hpb1' : p'.block < wr.heap.size := by omega
        have HG : Hid (good per es k = edLt q e) := by
          obtain ⟨j, rfl⟩ : ∃ j, k = j + 1 := ⟨k - 1, by omega⟩
          show _ = _
          rw [good_succ he hq, hin.out]; rfl
        clear he hq
        have hkd : decide ((0 : Int) < (k : Int)) = true := by simp; omega
        by_cases hC : e.t < q.t
        · have hF : Hid (shape per es = false) := shape_false HKL.out (i := k) (by rw [HG.out, Bool.eq_false_iff]; simp only [edLt, ne_eq, Bool.or_eq_true, Bool.and_eq_true, decide_eq_true_eq]; omega)
          have hd1 : decide (e.t < q.t) = true := by simpa using hC
          go_wp2_with fail
          refine (within_yes e.t 0 (per - 1) hA1 hA2 _).mono ?_
          rintro e' w' ⟨rfl, rfl⟩
          go_wp2_with fail
          refine (within_yes e.s 0 5 hB1 hB2 _).mono ?_
          rintro e' w' ⟨rfl, rfl⟩
          go_wp2
          go_quiet (fail)
          go_wp2
          go_ret
          exact ⟨by rw [hF.out]; rfl, below_drewN hba _⟩
        · have hd1 : decide (e.t < q.t) = false := by simpa using hC
          by_cases hD : e.t = q.t
          · have hd2 : (e.t == q.t) = true := by simpa using hD
            by_cases hS : e.s ≤ q.s
            · have hd3 : decide (e.s ≤ q.s) = true := by simpa using hS
              have hF : Hid (shape per es = false) := shape_false HKL.out (i := k) (by rw [HG.out, Bool.eq_false_iff]; simp only [edLt, ne_eq, Bool.or_eq_true, Bool.and_eq_true, decide_eq_true_eq]; omega)
              clear hD hC
              go_wp2_with fail
              refine (within_yes e.t 0 (per - 1) hA1 hA2 _).mono ?_
              rintro e' w' ⟨rfl, rfl⟩
              go_wp2_with fail
              refine (within_yes e.s 0 5 hB1 hB2 _).mono ?_
              rintro e' w' ⟨rfl, rfl⟩
              go_wp2
              go_quiet (fail)
              go_wp2
              go_ret
              exact ⟨by rw [hF.out]; rfl, below_drewN hba _⟩
            · have hd3 : decide (e.s ≤ q.s) = false := by simpa using hS
              have hL : Hid (good per es k = true) := by
                show _ = _
                rw [HG.out]
                simp only [edLt, Bool.or_eq_true, Bool.and_eq_true, decide_eq_true_eq]; omega
              clear hD hC
              go_wp2_with fail
              refine (within_yes e.t 0 (per - 1) hA1 hA2 _).mono ?_
              rintro e' w' ⟨rfl, rfl⟩
              go_wp2_with fail
              refine (within_yes e.s 0 5 hB1 hB2 _).mono ?_
              rintro e' w' ⟨rfl, rfl⟩
              go_wp2
              go_quiet (fail)
              go_wp2
              go_roundw
              case rel => exact ⟨k + 1, by omega, by go_num, (fun j hj => by
                  by_cases hjk : j = k
                  · subst hjk; exact hL.out
                  · exact hg.out j (by omega)), below_drewN hba _⟩
              case measure => simp [intOf]; omega
          · have hd2 : (e.t == q.t) = false := by simpa using hD
            have hL : Hid (good per es k = true) := by
              show _ = _
              rw [HG.out]
              simp only [edLt, Bool.or_eq_true, Bool.and_eq_true, decide_eq_true_eq]; omega
            clear hD hC
            go_wp2_with fail
            refine (within_yes e.t 0 (per - 1) hA1 hA2 _).mono ?_
            rintro e' w' ⟨rfl, rfl⟩
            go_wp2_with fail
            refine (within_yes e.s 0 5 hB1 hB2 _).mono ?_
            rintro e' w' ⟨rfl, rfl⟩
            go_wp2
            go_quiet (fail)
            go_wp2
            go_roundw
            case rel => exact ⟨k + 1, by omega, by go_num, (fun j hj => by
                by_cases hjk : j = k
                · subst hjk; exact hL.out
                · exact hg.out j (by omega)), below_drewN hba _⟩
            case measure => simp [intOf]; omega
      · have HG : Hid (good per es k = true) := by
          obtain rfl : k = 0 := by omega
          show _ = _
          rw [good_zero he, hin.out]
        have hkd : decide ((0 : Int) < (k : Int)) = false := by simp; omega
        clear he
        go_wp2_with fail
        refine (within_yes e.t 0 (per - 1) hA1 hA2 _).mono ?_
        rintro e' w' ⟨rfl, rfl⟩
        go_wp2_with fail
        refine (within_yes e.s 0 5 hB1 hB2 _).mono ?_
        rintro e' w' ⟨rfl, rfl⟩
        go_wp2
        go_quiet (fail)
        go_wp2
        go_roundw
        case rel => exact ⟨k + 1, by omega, by go_num, (fun j hj => by
            by_cases hjk : j = k
            · subst hjk; exact HG.out
            · exact hg.out j (by omega)), below_drewN hba _⟩
        case measure => simp [intOf]; omega
    · have hF : Hid (shape per es = true) := (shape_iff per es).2 fun i hi => hg.out i (by have := HN.out; omega)
      go_wp2
      go_ret
      exact ⟨by rw [hF.out]; rfl, hb⟩

end Go.Proofs.Ytgnojdiecgfeaaa
