/- Cells of an own row that are written in place. No program in sight. -/
import Derived.Test.YtgnojdiecgfeaaaWords
namespace Go.Proofs.Ytgnojdiecgfeaaa
open Go.RowKit

theorem own_set {w : World} {base : Nat} {e : TypeId} {size g n cap : Nat} {xs : List Value} (h : w.ownsRow base e size (.slice (some ⟨g, 0, none⟩) n cap) n xs) (i : Nat) (u : Value) :
    (w.setCell ⟨g, i, none⟩ u).ownsRow base e size (.slice (some ⟨g, 0, none⟩) n cap) n (xs.set i u) := by
  rcases h.2 with ⟨e0, _⟩ | ⟨g', cap', cur, e0, hb, hg, hn, hm, hs, ht⟩
  · cases e0
  · injection e0 with e1 _ e3
    injection e1 with e1
    injection e1 with e1
    subst e1; subst e3
    refine ⟨by rw [List.length_set]; exact h.1, .inr ⟨g, cap, cur.setIfInBounds i u, rfl, hb, ?_, hn, hm, by simpa using hs, ?_⟩⟩
    · simp [World.setCell, Array.getElem?_modify, hg]
    · rw [← ht, Array.toList_setIfInBounds]
      rw [List.take_set]
theorem own_form {w : World} {base : Nat} {e : TypeId} {size : Nat} {v : Value} {n : Nat} {xs : List Value} (h : w.ownsRow base e size v n xs) (hn : 0 < n) : ∃ g cap, v = .slice (some ⟨g, 0, none⟩) n cap ∧ base ≤ g ∧ g < w.heap.size := by
  rcases h.2 with ⟨_, h0⟩ | ⟨g, cap, cur, hv, hb, hg, _⟩
  · omega
  · exact ⟨g, cap, hv, hb, Blk.lt hg⟩
theorem own_frozen {w : World} {base : Nat} {e : TypeId} {size g n cap : Nat} {xs : List Value} (h : w.ownsRow base e size (.slice (some ⟨g, 0, none⟩) n cap) n xs) (i : Nat) : w.frozen? ⟨g, i, none⟩ = false := by
  rcases h.2 with ⟨e0, _⟩ | ⟨g', cap', cur, e0, hb, hg, hn, hm, hs, ht⟩
  · cases e0
  · injection e0 with e1 _ e3
    injection e1 with e1
    injection e1 with e1
    subst e1
    simp [World.frozen?, hg]
theorem own_cell {w : World} {base : Nat} {e : TypeId} {size g n cap : Nat} {xs : List Value} (h : w.ownsRow base e size (.slice (some ⟨g, 0, none⟩) n cap) n xs) {i : Nat} {u : Value} (hu : xs[i]? = some u) : w.cell? ⟨g, i, none⟩ = some u := by
  have := h.cells (g := g) rfl i u hu
  have hadd : (⟨g, 0, none⟩ : Addr).add i = ⟨g, i, none⟩ := by unfold Addr.add; split <;> simp_all
  rwa [hadd] at this
theorem add_zero_block (g i : Nat) : (⟨g, 0, none⟩ : Addr).add i = ⟨g, i, none⟩ := by unfold Addr.add; split <;> simp_all
/-- The last two rows of three cells, exchanged. -/
theorem own_swap3 {w : World} {base : Nat} {e : TypeId} {g n cap m : Nat} {P : List Value} {a0 a1 a2 b0 b1 b2 : Value} (h : w.ownsRow base e 3 (.slice (some ⟨g, 0, none⟩) n cap) n (P ++ [a0, a1, a2, b0, b1, b2])) (hm : P.length = m) :
    ((((((w.setCell ⟨g, m, none⟩ b0).setCell ⟨g, m + 1, none⟩ b1).setCell ⟨g, m + 2, none⟩ b2).setCell ⟨g, m + 3, none⟩ a0).setCell ⟨g, m + 3 + 1, none⟩ a1).setCell ⟨g, m + 3 + 2, none⟩ a2).ownsRow base e 3 (.slice (some ⟨g, 0, none⟩) n cap) n (P ++ [b0, b1, b2, a0, a1, a2]) := by
  have h1 := own_set h m b0
  have h2 := own_set h1 (m + 1) b1
  have h3 := own_set h2 (m + 2) b2
  have h4 := own_set h3 (m + 3) a0
  have h5 := own_set h4 (m + 3 + 1) a1
  have h6 := own_set h5 (m + 3 + 2) a2
  have e1 : ((((((P ++ [a0, a1, a2, b0, b1, b2]).set m b0).set (m + 1) b1).set (m + 2) b2).set (m + 3) a0).set (m + 3 + 1) a1).set (m + 3 + 2) a2 = P ++ [b0, b1, b2, a0, a1, a2] := by
    subst hm
    simp [List.set_append_right, show P.length + 3 + 1 = P.length + 4 from rfl, show P.length + 3 + 2 = P.length + 5 from rfl]
  rwa [e1] at h6

end Go.Proofs.Ytgnojdiecgfeaaa
