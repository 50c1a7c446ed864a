/- The walk of 'shorted': some part has a shorted leg. -/
import Derived.Test.YtgnojdiecgfeaaaSpans
namespace Go.Proofs.Ytgnojdiecgfeaaa
open Go.RowKit

theorem shortB_six (c0 c1 c2 c3 c4 c5 : Bool) : shortB [c0, c1, c2, c3, c4, c5] = ((c0 && c1) || (c2 && c3) || (c4 && c5)) := rfl
theorem any_hit {α : Type} {l : List α} {p : α → Bool} {k : Nat} {x : α} (h : l[k]? = some x) (hp : p x = true) : l.any p = true := by
  obtain ⟨h1, rfl⟩ := List.getElem?_eq_some_iff.1 h
  exact List.any_eq_true.2 ⟨_, List.getElem_mem h1, hp⟩
theorem any_miss {α : Type} {l : List α} {p : α → Bool} (h : ∀ (j : Nat) (x : α), l[j]? = some x → p x = false) : l.any p = false := by
  rw [List.any_eq_false]
  intro x hx
  obtain ⟨i, hi, rfl⟩ := List.getElem_of_mem hx
  rw [h i _ (List.getElem?_eq_getElem hi)]
  simp

set_option maxHeartbeats 800000 in
theorem shorted_walk (A : Option Addr) (n c : Nat) (sp : List (Int × List Bool)) (w : World) (hE : Sl w w.heap.size 7 A (sp.map spanRow)) (hn : n = sp.length) (hm : n ≤ 1000001) (h6 : ∀ x ∈ sp, x.2.length = 6) :
    Calls Try.prog 59 #[.slice A n c] w fun e w' => e = .returned (.bool (sp.any fun x => shortB x.2)) ∧ Below w.heap.size w w' := by
  have HN := Lib.hid hn
  clear hn
  go_enter Try.func59, Try.ntmps59
  go_wp2
  go_loopw [8] (fun i wr => ∃ k : Nat, k ≤ n ∧ i = .int .i64 k ∧ Hid (∀ j x, j < k → sp[j]? = some x → shortB x.2 = false) ∧ Below w.heap.size w wr) (fun i _ => n - (intOf i).toNat)
  case atStart => exact ⟨0, Nat.zero_le _, rfl, fun j x h => by omega, Below.refl _ _⟩
  case round =>
    obtain ⟨k, hk, rfl, hg, hb⟩ := hrel
    have hsz := hb.size
    by_cases hlt : k < n
    · have hkl : k < sp.length := by have := HN.out; omega
      obtain ⟨⟨q, on⟩, he⟩ : ∃ e, sp[k]? = some e := ⟨_, List.getElem?_eq_getElem hkl⟩
      obtain ⟨c0, c1, c2, c3, c4, c5, hon⟩ := six_of (h6 _ (List.mem_of_getElem? he))
      simp only at hon
      subst hon
      obtain ⟨ad, p, rfl, hpa, hpb, e0, e1, e2, e3, e4, e5, e6⟩ := (hE.below hb).seven (k := k) (by rw [List.getElem?_map, he]; rfl)
      have hpb1 : p.block < wr.heap.size := by omega
      have HE := Lib.hid he
      clear he
      have hbx := hb.alloc hsz (.cells #[.int .i64 q, .bool c0, .bool c1, .bool c2, .bool c3, .bool c4, .bool c5] 101)
      go_wp2
      go_loop [12] (fun i => i = .int .i64 0 ∨ (i = .int .i64 1 ∧ Hid ((c0 && c1) = false)) ∨ (i = .int .i64 2 ∧ Hid ((c0 && c1) = false ∧ (c2 && c3) = false)) ∨ (i = .int .i64 3 ∧ Hid ((c0 && c1) = false ∧ (c2 && c3) = false ∧ (c4 && c5) = false))) (fun i => 3 - (intOf i).toNat)
      case atStart => exact .inl rfl
      case round =>
        rcases hrel with rfl | ⟨rfl, hA⟩ | ⟨rfl, hA⟩ | ⟨rfl, hA⟩
        · rcases c0 <;> rcases c1
          all_goals
            go_wp2
            first
            | (go_ret
               exact ⟨congrArg (fun b => Ending.returned (.bool b)) (any_hit HE.out (by simp [shortB_six])).symm, hbx⟩)
            | (go_round
               case rel => exact .inr (.inl ⟨rfl, rfl⟩)
               case measure => simp [intOf])
        · rcases c2 <;> rcases c3
          all_goals
            go_wp2
            first
            | (go_ret
               exact ⟨congrArg (fun b => Ending.returned (.bool b)) (any_hit HE.out (by simp [shortB_six])).symm, hbx⟩)
            | (go_round
               case rel => exact .inr (.inr (.inl ⟨rfl, hA.out, rfl⟩))
               case measure => simp [intOf])
        · rcases c4 <;> rcases c5
          all_goals
            go_wp2
            first
            | (go_ret
               exact ⟨congrArg (fun b => Ending.returned (.bool b)) (any_hit HE.out (by simp [shortB_six])).symm, hbx⟩)
            | (go_round
               case rel => exact .inr (.inr (.inr ⟨rfl, hA.out.1, hA.out.2, rfl⟩))
               case measure => simp [intOf])
        · have HS : Hid (shortB [c0, c1, c2, c3, c4, c5] = false) := by
            show _ = _
            rw [shortB_six, hA.out.1, hA.out.2.1, hA.out.2.2]; rfl
          go_wp2
          go_roundw
          case rel =>
            refine ⟨k + 1, by omega, by go_num, fun j x hj hx => ?_, hbx⟩
            by_cases hjk : j = k
            · subst hjk
              rw [HE.out] at hx
              injection hx with hx
              subst hx
              exact HS.out
            · exact hg.out j x (by omega) hx
          case measure => simp [intOf]; omega
    · have HF : Hid ((sp.any fun x => shortB x.2) = false) := any_miss fun j x hx => hg.out j x (by have := (List.getElem?_eq_some_iff.1 hx).1; have := HN.out; omega) hx
      go_wp2
      go_ret
      exact ⟨by rw [HF.out]; rfl, hb⟩

end Go.Proofs.Ytgnojdiecgfeaaa
