/- The walks of the reference's Short and Error. -/
import Derived.Test.YtgnojdiecgfeaaaChk
import Derived.Test.YtgnojdiecgfeaaaAt
import Derived.Test.YtgnojdiecgfeaaaShorted
import Derived.Test.YtgnojdiecgfeaaaPlainB
import Derived.Test.YtgnojdiecgfeaaaRes
namespace Go.Proofs.Ytgnojdiecgfeaaa
open Go.RowKit

theorem at_rows {per : Int} {on : List Bool} {es : List Ed} (h6 : on.length = 6) : ∀ r ∈ (rowsF per on es).map boolRow, r.length = 6 := by
  intro r hr
  obtain ⟨x, hx, rfl⟩ := List.mem_map.1 hr
  obtain ⟨t, _, rfl⟩ := List.mem_map.1 hx
  simp [boolRow, onAt_length, h6]
theorem rows_mem {per : Int} {on : List Bool} {es : List Ed} (h6 : on.length = 6) : ∀ x ∈ rowsF per on es, x.length = 6 := by
  intro x hx
  obtain ⟨t, _, rfl⟩ := List.mem_map.1 hx
  simp [onAt_length, h6]
theorem rows_len {per : Int} {on : List Bool} {es : List Ed} : (rowsF per on es).length = per.toNat := by simp [rowsF]

set_option maxRecDepth 100000 in
set_option maxHeartbeats 1600000 in
theorem rshort_walk (per : Int) (b0 b1 b2 b3 b4 b5 : Bool) (A : Option Addr) (n c : Nat) (es : List Ed) (w : World) (hE : Sl w w.heap.size 3 A (es.map Ed.row)) (hn : n = es.length) (hm : n ≤ 1000000) (hc : chk per es = 0) :
    Calls Try.prog 29 #[.agg #[.int .i64 per, .bool b0, .bool b1, .bool b2, .bool b3, .bool b4, .bool b5, .slice A n c]] w fun e w' => e = .returned (.bool (shortR per [b0, b1, b2, b3, b4, b5] es)) ∧ Below w.heap.size w w' := by
  obtain ⟨hp1, hp2, hv⟩ := chk_zero hc
  have HN := Lib.hid hn
  clear hn hc
  go_enter Try.func29, Try.ntmps29
  go_wp2_with fail
  refine (at_walk per b0 b1 b2 b3 b4 b5 A n c es _ ((hE.alloc (Nat.le_refl _) _).more (by simp)) HN.out hm hv hp1 hp2).mono ?_
  rintro e w1 ⟨v, rfl, hown, hb1⟩
  have hb := ((Below.refl w.heap.size w).alloc (Nat.le_refl _) (.cells #[.int .i64 per, .bool b0, .bool b1, .bool b2, .bool b3, .bool b4, .bool b5, .slice A n c] 25)).trans (hb1.mono (by simp))
  obtain ⟨rs, hrs⟩ : ∃ rs, rowsF per [b0, b1, b2, b3, b4, b5] es = rs := ⟨_, rfl⟩
  have hrows := at_rows (per := per) (es := es) (on := [b0, b1, b2, b3, b4, b5]) rfl
  have hmem := rows_mem (per := per) (es := es) (on := [b0, b1, b2, b3, b4, b5]) rfl
  have hlen := rows_len (per := per) (es := es) (on := [b0, b1, b2, b3, b4, b5])
  rw [hrs] at hown hrows hmem hlen
  rw [← hlen] at hown
  obtain ⟨A', c', rfl, hS, _⟩ := Sl.of_own hown hrows (by simp)
  have hl : rs.length ≤ 4096 := by omega
  have HM := Lib.hid hmem
  have HS : Hid (shortR per [b0, b1, b2, b3, b4, b5] es = rs.any shortB) := by show _ = _; unfold shortR; rw [hrs]
  clear hown hrows hmem hlen hrs hb1
  go_wp2
  go_loop [4] (fun i => ∃ k : Nat, k ≤ rs.length ∧ i = .int .i64 k ∧ Hid (∀ (j : Nat) x, j < k → rs[j]? = some x → shortB x = false)) (fun i => rs.length - (intOf i).toNat)
  case atStart => exact ⟨0, Nat.zero_le _, rfl, fun j x h => by omega⟩
  case round =>
    obtain ⟨k, hk, rfl, hg⟩ := hrel
    by_cases hlt : k < rs.length
    · obtain ⟨on, he⟩ : ∃ e, rs[k]? = some e := ⟨_, List.getElem?_eq_getElem hlt⟩
      obtain ⟨c0, c1, c2, c3, c4, c5, rfl⟩ := six_of (HM.out _ (List.mem_of_getElem? he))
      obtain ⟨ad, p, rfl, hpa, hpb, e0, e1, e2, e3, e4, e5⟩ := hS.six (k := k) (by rw [List.getElem?_map, he]; rfl)
      have HE := Lib.hid he
      clear he
      go_wp2
      go_loop [5] (fun i => i = .int .i64 0 ∨ (i = .int .i64 1 ∧ Hid ((c0 && c1) = false)) ∨ (i = .int .i64 2 ∧ Hid ((c0 && c1) = false ∧ (c2 && c3) = false)) ∨ (i = .int .i64 3 ∧ Hid ((c0 && c1) = false ∧ (c2 && c3) = false ∧ (c4 && c5) = false))) (fun i => 3 - (intOf i).toNat)
      case atStart => exact .inl rfl
      case round =>
        rcases hrel with rfl | ⟨rfl, hA⟩ | ⟨rfl, hA⟩ | ⟨rfl, hA⟩
        · rcases c0 <;> rcases c1
          all_goals
            go_wp2
            first
            | (go_ret
               exact ⟨congrArg (fun b => Ending.returned (.bool b)) (by rw [HS.out]; exact (any_hit HE.out (by simp [shortB_six])).symm), hb⟩)
            | (go_round
               case rel => exact .inr (.inl ⟨rfl, rfl⟩)
               case measure => simp [intOf])
        · rcases c2 <;> rcases c3
          all_goals
            go_wp2
            first
            | (go_ret
               exact ⟨congrArg (fun b => Ending.returned (.bool b)) (by rw [HS.out]; exact (any_hit HE.out (by simp [shortB_six])).symm), hb⟩)
            | (go_round
               case rel => exact .inr (.inr (.inl ⟨rfl, hA.out, rfl⟩))
               case measure => simp [intOf])
        · rcases c4 <;> rcases c5
          all_goals
            go_wp2
            first
            | (go_ret
               exact ⟨congrArg (fun b => Ending.returned (.bool b)) (by rw [HS.out]; exact (any_hit HE.out (by simp [shortB_six])).symm), hb⟩)
            | (go_round
               case rel => exact .inr (.inr (.inr ⟨rfl, hA.out.1, hA.out.2, rfl⟩))
               case measure => simp [intOf])
        · have HF : Hid (shortB [c0, c1, c2, c3, c4, c5] = false) := by
            show _ = _
            rw [shortB_six, hA.out.1, hA.out.2.1, hA.out.2.2]; rfl
          go_wp2
          go_round
          case rel =>
            refine ⟨k + 1, by omega, by go_num, fun j x hj hx => ?_⟩
            by_cases hjk : j = k
            · subst hjk
              rw [HE.out] at hx
              injection hx with hx
              subst hx
              exact HF.out
            · exact hg.out j x (by omega) hx
          case measure => simp [intOf]; omega
    · have HF : Hid (rs.any shortB = false) := any_miss fun j x hx => hg.out j x (by have := (List.getElem?_eq_some_iff.1 hx).1; omega) hx
      go_wp2
      go_ret
      exact ⟨by rw [HS.out, HF.out]; rfl, hb⟩

set_option maxHeartbeats 400000 in
theorem rerror_walk (per : Int) (b0 b1 b2 b3 b4 b5 : Bool) (A : Option Addr) (n c : Nat) (es : List Ed) (w : World) (hE : Sl w w.heap.size 3 A (es.map Ed.row)) (hn : n = es.length) (hm : n ≤ 1000000) :
    Calls Try.prog 21 #[.agg #[.int .i64 per, .bool b0, .bool b1, .bool b2, .bool b3, .bool b4, .bool b5, .slice A n c]] w fun e w' => e = .returned (.int .i64 (err per [b0, b1, b2, b3, b4, b5] es)) ∧ Below w.heap.size w w' := by
  have HN := Lib.hid hn
  clear hn
  by_cases hc : chk per es = 0
  · obtain ⟨s, hs⟩ : ∃ s, shortR per [b0, b1, b2, b3, b4, b5] es = s := ⟨_, rfl⟩
    have HS := Lib.hid hs
    have HC := Lib.hid hc
    clear hs hc
    go_enter Try.func21, Try.ntmps21
    go_wp2_with fail
    refine (rchk_walk per b0 b1 b2 b3 b4 b5 A n c es _ ((hE.alloc (Nat.le_refl _) _).more (by simp)) HN.out hm).mono ?_
    rintro e w1 ⟨rfl, hb1⟩
    have hb := ((Below.refl w.heap.size w).alloc (Nat.le_refl _) (.cells #[.int .i64 per, .bool b0, .bool b1, .bool b2, .bool b3, .bool b4, .bool b5, .slice A n c] 25)).trans (hb1.mono (by simp))
    have g := (Blk.new w 25 #[.int .i64 per, .bool b0, .bool b1, .bool b2, .bool b3, .bool b4, .bool b5, .slice A n c]).below hb1 (by simp)
    obtain ⟨x0, x1, x2, x3, x4, x5, x6, x7⟩ := g.c8
    clear hb1
    rw [HC.out]
    go_wp2_with fail
    refine (rshort_walk per b0 b1 b2 b3 b4 b5 A n c es _ ((hE.below hb).more hb.size) HN.out hm HC.out).mono ?_
    rintro e w2 ⟨rfl, hb2⟩
    have hbb := hb.trans (hb2.mono hb.size)
    rw [HS.out]
    cases s
    · go_wp2
      go_ret
      exact ⟨by rw [err_zero HC.out HS.out]; rfl, hbb⟩
    · go_wp2
      go_ret
      exact ⟨by rw [err_short HC.out HS.out]; rfl, hbb⟩
  · have HC := Lib.hid hc
    have hne : (chk per es == 0) = false := by simpa using hc
    have hne2 : (chk per es != 0) = true := by simpa using hc
    clear hc
    go_enter Try.func21, Try.ntmps21
    go_wp2_with fail
    refine (rchk_walk per b0 b1 b2 b3 b4 b5 A n c es _ ((hE.alloc (Nat.le_refl _) _).more (by simp)) HN.out hm).mono ?_
    rintro e w1 ⟨rfl, hb1⟩
    have hb := ((Below.refl w.heap.size w).alloc (Nat.le_refl _) (.cells #[.int .i64 per, .bool b0, .bool b1, .bool b2, .bool b3, .bool b4, .bool b5, .slice A n c] 25)).trans (hb1.mono (by simp))
    go_wp2
    go_ret
    exact ⟨by rw [err_chk HC.out]; rfl, hb⟩

end Go.Proofs.Ytgnojdiecgfeaaa
