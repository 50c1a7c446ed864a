/- Plain facts: in the checker's state no two switches of a leg are on together; so both ends are the same. -/
import Derived.Test.YtgnojdiecgfeaaaPlainO
namespace Go.Proofs.Ytgnojdiecgfeaaa

/-- No two switches of a leg are on together. -/
def Nev (l : List Bool) : Prop := l.length = 6 ∧ ∀ m, m < 3 → ¬ (l.getD (2 * m) false = true ∧ l.getD (2 * m + 1) false = true)
theorem nev_onL (x : Nat → Lg) : Nev (onL x) := by
  refine ⟨rfl, fun m hm h => ?_⟩
  obtain ⟨h1, h2⟩ := getD_onL x hm
  rw [h1, h2] at h
  have e1 : (x m).s = 2 := by simpa using h.1
  have e2 : (x m).s = 1 := by simpa using h.2
  omega
theorem nev_step {l : List Bool} {s : Int} {o : Bool} {t : Int} (h : Nev l) (h0 : 0 ≤ s) (h5 : s ≤ 5) (ho : o = true → l.getD (oth s).toNat false = false) : Nev (step l ⟨t, s, o⟩) := by
  obtain ⟨hl, hn⟩ := h
  match l, hl with
  | [c0, c1, c2, c3, c4, c5], _ =>
    have hs : s = 0 ∨ s = 1 ∨ s = 2 ∨ s = 3 ∨ s = 4 ∨ s = 5 := by omega
    have n0 := hn 0 (by omega)
    have n1 := hn 1 (by omega)
    have n2 := hn 2 (by omega)
    refine ⟨by simp [step], fun m hm => ?_⟩
    have hm3 : m = 0 ∨ m = 1 ∨ m = 2 := by omega
    cases o
    · rcases hs with rfl | rfl | rfl | rfl | rfl | rfl <;> rcases hm3 with rfl | rfl | rfl <;> simp [step] at n0 n1 n2 ⊢ <;> assumption
    · have ho' := ho rfl
      rcases hs with rfl | rfl | rfl | rfl | rfl | rfl <;> rcases hm3 with rfl | rfl | rfl <;> simp [step, oth] at n0 n1 n2 ho' ⊢ <;> assumption
theorem sfStep_nev {dead : Int} {σ σ' : Sf} {e : Ed} (h : Nev σ.is) (h0 : 0 ≤ e.s) (h5 : e.s ≤ 5) (hs : sfStep dead (some σ) e = some σ') : Nev σ'.is := by
  unfold sfStep at hs
  simp only at hs
  split at hs
  · cases hs
  · split at hs
    · cases hs
    · rename_i h1 h2
      injection hs with hs
      subst hs
      refine nev_step h h0 h5 fun ho => ?_
      cases hq : σ.is.getD (oth e.s).toNat false with
      | false => rfl
      | true => exact absurd ⟨ho, .inl hq⟩ h2
theorem sfR_nev {dead : Int} {es : List Ed} : ∀ {σ σ' : Sf}, Nev σ.is → (∀ e ∈ es, 0 ≤ e.s ∧ e.s ≤ 5) → sfR dead (some σ) es = some σ' → Nev σ'.is := by
  induction es with
  | nil =>
    intro σ σ' h _ hs
    injection hs with hs
    subst hs
    exact h
  | cons e es ih =>
    intro σ σ' h hv hs
    have he := hv e (List.mem_cons_self ..)
    have hs2 : sfR dead (sfStep dead (some σ) e) es = some σ' := hs
    cases hq : sfStep dead (some σ) e with
    | none => rw [hq, sfR_none] at hs2; cases hs2
    | some σ1 =>
      rw [hq] at hs2
      exact ih (sfStep_nev h he.1 he.2 hq) (fun e' h' => hv e' (List.mem_cons_of_mem _ h')) hs2

end Go.Proofs.Ytgnojdiecgfeaaa
