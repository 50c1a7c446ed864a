/- Tables of ways and their ends in memory. -/
import Derived.Test.YtnoihjjenceeaaaDoorDRWPlain
import Derived.Test.YtnoihjjenceeaaaDoorDWords
import Derived.Test.YtnoihjjenceeaaaDoorDRNext
namespace Go.Proofs.YtnoihjjenceeaaaDoor
open Go.RowKit
/-- v does not lie in the block of u. -/
def Dis (v u : Value) : Prop := v.ownBlock = none ∨ v.ownBlock ≠ u.ownBlock
theorem Dis.grow {w : World} {B : Nat} {e : TypeId} {s n : Nat} {v u : Value} {xs : List Value} (hv : w.ownsRow B e s v n xs) (hd : Dis v u) {g m c : Nat} (hat : u.ownBlock = some g ∨ g = w.heap.size) : Dis v (.slice (some ⟨g, 0, none⟩) m c) := by
  rcases hd with hd | hd
  · exact .inl hd
  · cases hb : v.ownBlock with
    | none => exact .inl hb
    | some k =>
      refine .inr ?_
      rw [hb]
      have hl := (hv.lt k hb).2
      intro h
      have h' : k = g := by simpa [Value.ownBlock] using h
      subst h'
      rcases hat with hat | hat
      · exact hd (by rw [hb, hat])
      · omega
theorem Dis.far {w : World} {B C : Nat} {e e' : TypeId} {s n s' n' : Nat} {v u : Value} {xs ys : List Value} (hv : w.ownsRow B e s v n xs) {w' : World} (hu : w'.ownsRow C e' s' u n' ys) (hC : w.heap.size ≤ C) : Dis v u ∧ Dis u v := by
  constructor
  · cases hb : v.ownBlock with
    | none => exact .inl hb
    | some k =>
      refine .inr fun h => ?_
      rw [hb] at h
      have h1 := (hv.lt k hb).2
      have h2 := (hu.lt k h.symm).1
      omega
  · cases hb : u.ownBlock with
    | none => exact .inl hb
    | some k =>
      refine .inr fun h => ?_
      rw [hb] at h
      have h1 := (hv.lt k h.symm).2
      have h2 := (hu.lt k hb).1
      omega
def iv (l : List Int) : List Value := l.map (Value.int .i64)
/-- The ways vW with the values vs, and the ends vE. -/
structure Tb (w : World) (B : Nat) (vW vE : Value) (vs : List Value) (Ls : List (List Int)) (E : List Int) : Prop where
  W : w.ownsRow B 34 1 vW Ls.length vs
  E : w.ownsRow B 3 1 vE E.length (iv E)
  L : ∀ (i : Nat) (l : List Int), Ls[i]? = some l → ∃ v, vs[i]? = some v ∧ w.ownsRow B 3 1 v l.length (iv l) ∧ Dis v vW ∧ Dis v vE
  d : Dis vW vE ∧ Dis vE vW
section
variable {w w' : World} {B C : Nat} {vW vE : Value} {vs : List Value} {Ls : List (List Int)} {E : List Int}
theorem Tb.below (h : Tb w B vW vE vs Ls E) (hb : Below C w w') (hC : w.heap.size ≤ C) : Tb w' B vW vE vs Ls E :=
  ⟨own_below h.W hb hC, own_below h.E hb hC, fun i l hl => (h.L i l hl).imp fun _ q => ⟨q.1, own_below q.2.1 hb hC, q.2.2⟩, h.d⟩
theorem Tb.alloc (h : Tb w B vW vE vs Ls E) (o : Obj) : Tb (w.alloc o) B vW vE vs Ls E := h.below ((Below.refl w.heap.size w).alloc (Nat.le_refl _) o) (Nat.le_refl _)
theorem Tb.drewN (h : Tb w B vW vE vs Ls E) (n : Nat) : Tb (w.drewN n) B vW vE vs Ls E := ⟨h.W, h.E, h.L, h.d⟩
theorem Tb.drew (h : Tb w B vW vE vs Ls E) : Tb w.drew B vW vE vs Ls E := ⟨h.W, h.E, h.L, h.d⟩
theorem Tb.base (h : Tb w B vW vE vs Ls E) (hC : C ≤ B) : Tb w C vW vE vs Ls E := ⟨h.W.rebase hC, h.E.rebase hC, fun i l hl => (h.L i l hl).imp fun _ q => ⟨q.1, q.2.1.rebase hC, q.2.2⟩, h.d⟩
theorem Tb.nil (w : World) (B : Nat) : Tb w B (.slice none 0 0) (.slice none 0 0) [] [] [] :=
  ⟨World.ownsRow_nil _ _ _ _, World.ownsRow_nil _ _ _ _, fun i l h => by simp at h, .inl rfl, .inl rfl⟩
/-- An end more. -/
theorem Tb.addE (h : Tb w B vW vE vs Ls E) {x : Int} {g cap n : Nat} (hn : n = E.length + 1) (ho : w'.ownsRow B 3 1 (.slice (some ⟨g, 0, none⟩) n cap) n (iv E ++ [.int .i64 x])) (hg : w.grownBy w' vE.ownBlock) (hat : vE.ownBlock = some g ∨ g = w.heap.size) :
    Tb w' B vW (.slice (some ⟨g, 0, none⟩) n cap) vs Ls (E ++ [x]) := by
  subst hn
  refine ⟨h.W.kept hg h.d.1, by simpa [iv] using ho, fun i l hl => ?_, Dis.grow h.W h.d.1 hat, ?_⟩
  · obtain ⟨v, h1, h2, h3, h4⟩ := h.L i l hl
    exact ⟨v, h1, h2.kept hg h4, h3, Dis.grow h2 h4 hat⟩
  · have := Dis.grow (m := E.length + 1) (c := cap) h.W h.d.1 hat
    rcases this with q | q
    · refine .inr ?_
      rw [q]
      simp [Value.ownBlock]
    · exact .inr (Ne.symm q)
/-- A way more. -/
theorem Tb.addW (h : Tb w B vW vE vs Ls E) {u : Value} {l : List Int} {g cap n : Nat} (hn : n = Ls.length + 1) (hu : w.ownsRow B 3 1 u l.length (iv l)) (d1 : Dis u vW) (d2 : Dis u vE)
    (ho : w'.ownsRow B 34 1 (.slice (some ⟨g, 0, none⟩) n cap) n (vs ++ [u])) (hg : w.grownBy w' vW.ownBlock) (hat : vW.ownBlock = some g ∨ g = w.heap.size) :
    Tb w' B (.slice (some ⟨g, 0, none⟩) n cap) vE (vs ++ [u]) (Ls ++ [l]) E := by
  subst hn
  have hlen : vs.length = Ls.length := by have := h.W.1; omega
  refine ⟨by simpa using ho, h.E.kept hg h.d.2, fun i l' hl => ?_, ?_, Dis.grow h.E h.d.2 hat⟩
  · by_cases hi : i < Ls.length
    · rw [List.getElem?_append_left hi] at hl
      obtain ⟨v, h1, h2, h3, h4⟩ := h.L i l' hl
      exact ⟨v, by rw [List.getElem?_append_left (by omega)]; exact h1, h2.kept hg h3, Dis.grow h2 h3 hat, h4⟩
    · have hi2 : i = Ls.length := by
        have := (List.getElem?_eq_some_iff.1 hl).1
        simp at this
        omega
      subst hi2
      simp at hl
      subst hl
      exact ⟨u, by rw [← hlen]; simp, hu.kept hg d1, Dis.grow hu d1 hat, d2⟩
  · have := Dis.grow (m := Ls.length + 1) (c := cap) h.E h.d.2 hat
    rcases this with q | q
    · refine .inr ?_
      rw [q]
      simp [Value.ownBlock]
    · exact .inr (Ne.symm q)
end
end Go.Proofs.YtnoihjjenceeaaaDoor
