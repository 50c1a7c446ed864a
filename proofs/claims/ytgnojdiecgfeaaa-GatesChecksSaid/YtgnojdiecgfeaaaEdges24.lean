/- The walk of the reference's edges of layer 24. -/
import Derived.Test.YtgnojdiecgfeaaaChk
namespace Go.Proofs.Ytgnojdiecgfeaaa
open Go.RowKit

def shp (per : Int) (es : List Ed) : Int := if shape per es = true then 0 else 11
theorem shp_bad {per : Int} {es : List Ed} {i : Nat} (h : i < es.length) (hg : good per es i = false) : shp per es = 11 := by
  unfold shp
  rw [shape_false h hg]
  rfl
theorem shp_good {per : Int} {es : List Ed} (h : ∀ i, i < es.length → good per es i = true) : shp per es = 0 := if_pos ((shape_iff per es).2 h)

set_option maxRecDepth 100000 in
set_option maxHeartbeats 6400000 in
theorem edges24_walk (per : Int) (b0 b1 b2 b3 b4 b5 : Bool) (A : Option Addr) (n c : Nat) (es : List Ed) (w : World) (hE : Sl w w.heap.size 3 A (es.map Ed.row)) (hn : n = es.length) (hm : n ≤ 1000000) :
    Calls Try.prog 75 #[.agg #[.int .i64 per, .bool b0, .bool b1, .bool b2, .bool b3, .bool b4, .bool b5, .slice A n c]] w fun e w' => e = .returned (.int .i64 (shp per es)) ∧ Below w.heap.size w w' := by
  have HN := Lib.hid hn
  clear hn
  have g0 := Blk.new w 25 #[.int .i64 per, .bool b0, .bool b1, .bool b2, .bool b3, .bool b4, .bool b5, .slice A n c]
  have hb0 := (Below.refl w.heap.size w).alloc (Nat.le_refl _) (.cells #[.int .i64 per, .bool b0, .bool b1, .bool b2, .bool b3, .bool b4, .bool b5, .slice A n c] 25)
  go_enter Try.func75, Try.ntmps75
  go_wp2
  go_loopw [8] (fun i wr => ∃ k : Nat, k ≤ n ∧ i = .int .i64 k ∧ Hid (∀ j, j < k → good per es j = true) ∧ Blk wr w.heap.size 25 #[.int .i64 per, .bool b0, .bool b1, .bool b2, .bool b3, .bool b4, .bool b5, .slice A n c] ∧ Below w.heap.size w wr) (fun i _ => n - (intOf i).toNat)
  case atStart => exact ⟨0, Nat.zero_le _, rfl, (fun j h => by omega), g0, hb0⟩
  case round =>
    clear g0 hb0
    obtain ⟨k, hk, rfl, hg, g0, hb⟩ := hrel
    obtain ⟨h0, h1, h2, h3, h4, h5, h6, h7⟩ := g0.c8
    have hsz := g0.lt
    have hbs := hb.size
    clear h1 h2 h3 h4 h5 h6
    by_cases hlt : k < n
    · have hkl : k < es.length := by have := HN.out; omega
      obtain ⟨e, he⟩ : ∃ e, es[k]? = some e := ⟨_, List.getElem?_eq_getElem hkl⟩
      have hE1 := hE.below hb
      obtain ⟨ad, p, rfl, hpa, hpb, c0, c1, c2⟩ := hE1.three (k := k) (x := .int .i64 e.t) (y := .int .i64 e.s) (z := .bool e.o) (by rw [List.getElem?_map, he]; rfl)
      have hpb1 : p.block < wr.heap.size := by omega
      have hbA := hb.alloc hbs (.cells #[.int .i64 e.t, .int .i64 e.s, .bool e.o] 37)
      have gA := g0.alloc (.cells #[.int .i64 e.t, .int .i64 e.s, .bool e.o] 37)
      by_cases hin : 0 ≤ e.t ∧ e.t < per ∧ 0 ≤ e.s ∧ e.s ≤ 5
      · obtain ⟨i1, i2, i3, i4⟩ := hin
        have hei : edIn per e = true := by simp only [edIn, Bool.and_eq_true, decide_eq_true_eq]; omega
        by_cases hk0 : 0 < k
        · obtain ⟨q, hq⟩ : ∃ q, es[k - 1]? = some q := ⟨_, List.getElem?_eq_getElem (by omega)⟩
          obtain ⟨ad', p', hae, hpa', hpb', d0, d1, d2⟩ := hE1.three (k := k - 1) (x := .int .i64 q.t) (y := .int .i64 q.s) (z := .bool q.o) (by rw [List.getElem?_map, hq]; rfl)
          injection hae with hae
          subst hae
          have hpb1' : p'.block < wr.heap.size := by omega
          have hgs : good per es k = (edIn per e && edLt q e) := by
            obtain ⟨j, rfl⟩ : ∃ j, k = j + 1 := ⟨k - 1, by omega⟩
            exact good_succ he hq
          rw [hei, Bool.true_and] at hgs
          have HG := Lib.hid hgs
          have dk : decide ((0 : Int) < (k : Int)) = true := decide_eq_true (by omega)
          clear he hq hgs hei
          by_cases a1 : e.t < q.t
          · have y1 : decide (e.t < q.t) = true := decide_eq_true a1
            have hlf : Hid (good per es k = false) := by
              show _ = _
              rw [HG.out, Bool.eq_false_iff]
              intro hh
              simp only [edLt, Bool.and_eq_true, Bool.or_eq_true, decide_eq_true_eq] at hh
              omega
            clear a1
            go_wp2
            go_quiet (fail)
            go_wp2
            go_ret
            exact ⟨by rw [shp_bad hkl hlf.out]; rfl, below_drewN hbA nq⟩
          · have y1 : decide (e.t < q.t) = false := decide_eq_false a1
            by_cases a2 : e.t = q.t
            · have y2 : (e.t == q.t) = true := by simpa using a2
              by_cases a3 : e.s ≤ q.s
              · have y3 : decide (e.s ≤ q.s) = true := decide_eq_true a3
                have hlf : Hid (good per es k = false) := by
                  show _ = _
                  rw [HG.out, Bool.eq_false_iff]
                  intro hh
                  simp only [edLt, Bool.and_eq_true, Bool.or_eq_true, decide_eq_true_eq] at hh
                  omega
                clear a1 a2 a3
                go_wp2
                go_quiet (fail)
                go_wp2
                go_ret
                exact ⟨by rw [shp_bad hkl hlf.out]; rfl, below_drewN hbA nq⟩
              · have y3 : decide (e.s ≤ q.s) = false := decide_eq_false a3
                have hlf : Hid (good per es k = true) := by
                  show _ = _
                  rw [HG.out]
                  simp only [edLt, Bool.and_eq_true, Bool.or_eq_true, decide_eq_true_eq]
                  omega
                clear a1 a2 a3
                go_wp2
                go_quiet (fail)
                go_wp2
                go_roundw
                case rel => exact ⟨k + 1, by omega, by go_num, (fun j hj => by
                  by_cases hjk : j = k
                  · subst hjk; exact hlf.out
                  · exact hg.out j (by omega)), gA.drewN nq, below_drewN hbA nq⟩
                case measure => simp [intOf]; omega
            · have y2 : (e.t == q.t) = false := by simpa using a2
              have hlf : Hid (good per es k = true) := by
                show _ = _
                rw [HG.out]
                simp only [edLt, Bool.and_eq_true, Bool.or_eq_true, decide_eq_true_eq]
                omega
              clear a1 a2
              go_wp2
              go_quiet (fail)
              go_wp2
              go_roundw
              case rel => exact ⟨k + 1, by omega, by go_num, (fun j hj => by
                by_cases hjk : j = k
                · subst hjk; exact hlf.out
                · exact hg.out j (by omega)), gA.drewN nq, below_drewN hbA nq⟩
              case measure => simp [intOf]; omega
        · obtain rfl : k = 0 := by omega
          have hlf : Hid (good per es 0 = true) := by show _ = _; rw [good_zero he]; exact hei
          clear he hei
          go_wp2
          go_quiet (fail)
          go_wp2
          go_roundw
          case rel => exact ⟨1, by omega, by go_num, (fun j hj => by
            obtain rfl : j = 0 := by omega
            exact hlf.out), gA.drewN nq, below_drewN hbA nq⟩
          case measure => simp [intOf]; omega
      · have hei : edIn per e = false := by
          rw [Bool.eq_false_iff]
          intro hh
          simp only [edIn, Bool.and_eq_true, decide_eq_true_eq] at hh
          omega
        have hlf : Hid (good per es k = false) := by
          show _ = _
          by_cases hk0 : 0 < k
          · obtain ⟨j, rfl⟩ : ∃ j, k = j + 1 := ⟨k - 1, by omega⟩
            obtain ⟨q, hq⟩ : ∃ q, es[j]? = some q := ⟨_, List.getElem?_eq_getElem (by omega)⟩
            rw [good_succ he hq, hei]
            rfl
          · obtain rfl : k = 0 := by omega
            rw [good_zero he]
            exact hei
        have hor : e.t < 0 ∨ (0 ≤ e.t ∧ per ≤ e.t) ∨ (0 ≤ e.t ∧ e.t < per ∧ e.s < 0) ∨ (0 ≤ e.t ∧ e.t < per ∧ 0 ≤ e.s ∧ 5 < e.s) := by omega
        clear he hei hin
        rcases hor with z1 | ⟨z1, z2⟩ | ⟨z1, z2, z3⟩ | ⟨z1, z2, z3, z4⟩
        all_goals
          go_wp2
          go_ret
          exact ⟨by rw [shp_bad hkl hlf.out]; rfl, hbA⟩
    · go_wp2
      go_ret
      exact ⟨by rw [shp_good (fun i hi => hg.out i (by have := HN.out; omega))]; rfl, hb⟩

end Go.Proofs.Ytgnojdiecgfeaaa
