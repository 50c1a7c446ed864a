/- Plain facts: the checker of layer 24. -/
import Derived.Test.YtgnojdiecgfeaaaPlainM
import Derived.Test.YtgnojdiecgfeaaaPlainH
namespace Go.Proofs.Ytgnojdiecgfeaaa

/-- What the checker keeps: which switches are on, the count of the last turn-off of each leg. -/
structure Sf where
  is : List Bool
  la : Nat → Int
/-- The other switch of a leg. -/
def oth (s : Int) : Int := s + 1 - s % 2 * 2
def legN (s : Int) : Nat := (s / 2).toNat
def updN (f : Nat → Int) (m : Nat) (v : Int) : Nat → Int := fun l => if l = m then v else f l
/-- One edge. -/
def sfStep (dead : Int) (o : Option Sf) (e : Ed) : Option Sf :=
  match o with
  | none => none
  | some σ => if σ.is.getD e.s.toNat false = e.o then none
    else if e.o = true ∧ (σ.is.getD (oth e.s).toNat false = true ∨ e.t - σ.la (legN e.s) < dead) then none
    else some ⟨step σ.is e, if e.o = true then σ.la else updN σ.la (legN e.s) e.t⟩
def sfR (dead : Int) (o : Option Sf) (es : List Ed) : Option Sf := es.foldl (sfStep dead) o
def sf0 (x : Nat → Lg) : Sf := ⟨onL x, fun l => -(x l).j⟩
/-- The state behind the signals. -/
def sfEnd (per : Int) (σ : Sf) : Nat → Lg := fun l => ⟨if σ.is.getD (2 * l) false = true then 2 else if σ.is.getD (2 * l + 1) false = true then 1 else 0, min (per - σ.la l) 4096⟩
theorem sfR_none (dead : Int) (es : List Ed) : sfR dead none es = none := by
  induction es with
  | nil => rfl
  | cons e es ih => exact ih
theorem sfR_take {dead : Int} {o : Option Sf} {es : List Ed} {k : Nat} {e : Ed} (he : es[k]? = some e) : sfR dead o (es.take (k + 1)) = sfStep dead (sfR dead o (es.take k)) e := by
  have hk := List.getElem?_eq_some_iff.1 he
  rw [List.take_succ_eq_append_getElem hk.1, hk.2]
  simp [sfR]
theorem sfR_bad {dead : Int} {o : Option Sf} {es : List Ed} {k : Nat} (h : sfR dead o (es.take k) = none) : sfR dead o es = none := by
  have := List.take_append_drop k es
  rw [← this]
  unfold sfR at h ⊢
  rw [List.foldl_append, h]
  exact sfR_none dead _
theorem sfR_append (dead : Int) (o : Option Sf) (a b : List Ed) : sfR dead o (a ++ b) = sfR dead (sfR dead o a) b := by
  unfold sfR
  rw [List.foldl_append]
/-- One leg at one count: the checker goes along. -/
theorem sf_leg {dead t : Int} (x y : Nat → Lg) (la : Nat → Int) {m : Nat} (hm : m < 3) {v : Int} (hx : (x m).s = 0 ∨ (x m).s = 1 ∨ (x m).s = 2) (hv : v = 0 ∨ v = 1 ∨ v = 2) (hy : y m = legS dead (x m) v) (hj : (x m).j = min (t - la m) 4096) (hd : dead ≤ 4096) :
    ∃ la' : Nat → Int, sfR dead (some ⟨onL (mixL m y x), la⟩) (legE dead t m (x m) v) = some ⟨onL (mixL (m + 1) y x), la'⟩ ∧ (∀ l, l ≠ m → la' l = la l) ∧ (y m).j = min (t + 1 - la' m) 4096 := by
  have hfold := fold_leg (dead := dead) (t := t) x y hm hx hv hy
  by_cases h1 : isOff (x m) v
  · have hE : legE dead t m (x m) v = [⟨t, numb m (x m).s, false⟩] := if_pos h1
    have hS : legS dead (x m) v = ⟨0, 1⟩ := if_pos h1
    rw [hE] at hfold ⊢
    refine ⟨updN la m t, ?_, fun l hl => if_neg hl, ?_⟩
    · simp only [sfR, List.foldl_cons, List.foldl_nil] at hfold ⊢
      have hon : (onL (mixL m y x)).getD (numb m (x m).s).toNat false = true := by
        unfold isOff at h1
        match m, hm with
        | 0, _ => rcases hx with h | h | h <;> simp [h, numb, onL, mixL] at h1 ⊢
        | 1, _ => rcases hx with h | h | h <;> simp [h, numb, onL, mixL] at h1 ⊢
        | 2, _ => rcases hx with h | h | h <;> simp [h, numb, onL, mixL] at h1 ⊢
      have hleg : legN (numb m (x m).s) = m := by
        unfold legN numb
        split <;> omega
      unfold sfStep
      simp only [hon]
      rw [if_neg (by simp), if_neg (by simp), hfold, hleg]
      rfl
    · rw [hy, hS]
      show (1 : Int) = min (t + 1 - updN la m t m) 4096
      simp only [updN, if_true]
      omega
  · by_cases h2 : isOn dead (x m) v
    · have hE : legE dead t m (x m) v = [⟨t, numb m v, true⟩] := by unfold legE; rw [if_neg h1, if_pos h2]
      have hS : legS dead (x m) v = ⟨v, min ((x m).j + 1) 4096⟩ := by unfold legS; rw [if_neg h1, if_pos h2]
      rw [hE] at hfold ⊢
      obtain ⟨g1, g2, g3⟩ := h2
      refine ⟨la, ?_, fun l _ => rfl, ?_⟩
      · simp only [sfR, List.foldl_cons, List.foldl_nil] at hfold ⊢
        have hv12 : v = 1 ∨ v = 2 := by omega
        have hon : (onL (mixL m y x)).getD (numb m v).toNat false = false := by
          match m, hm with
          | 0, _ => rcases hv12 with h | h <;> simp [h, g1, numb, onL, mixL]
          | 1, _ => rcases hv12 with h | h <;> simp [h, g1, numb, onL, mixL]
          | 2, _ => rcases hv12 with h | h <;> simp [h, g1, numb, onL, mixL]
        have hot : (onL (mixL m y x)).getD (oth (numb m v)).toNat false = false := by
          match m, hm with
          | 0, _ => rcases hv12 with h | h <;> simp [h, g1, numb, onL, mixL, oth]
          | 1, _ => rcases hv12 with h | h <;> simp [h, g1, numb, onL, mixL, oth]
          | 2, _ => rcases hv12 with h | h <;> simp [h, g1, numb, onL, mixL, oth]
        have hleg : legN (numb m v) = m := by
          unfold legN numb
          split <;> omega
        unfold sfStep
        simp only [hon, hot]
        rw [if_neg (by simp), if_neg (by rw [hleg]; simp only [Bool.false_eq_true, false_or, true_and]; omega), hfold]
        rfl
      · rw [hy, hS]
        show min ((x m).j + 1) 4096 = min (t + 1 - la m) 4096
        omega
    · have hE : legE dead t m (x m) v = [] := by unfold legE; rw [if_neg h1, if_neg h2]
      have hS : legS dead (x m) v = ⟨(x m).s, min ((x m).j + 1) 4096⟩ := by unfold legS; rw [if_neg h1, if_neg h2]
      rw [hE] at hfold ⊢
      simp only [List.foldl_nil] at hfold
      refine ⟨la, ?_, fun l _ => rfl, ?_⟩
      · show some (Sf.mk (onL (mixL m y x)) la) = _
        rw [hfold]
      · rw [hy, hS]
        show min ((x m).j + 1) 4096 = min (t + 1 - la m) 4096
        omega

end Go.Proofs.Ytgnojdiecgfeaaa
