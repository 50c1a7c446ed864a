/- Plain facts on the sums over the parts of a period. -/
import Derived.Test.YtgnojdiecgfeaaaPlain
namespace Go.Proofs.Ytgnojdiecgfeaaa

theorem spansF_nonneg (per : Int) (es : List Ed) : ∀ (on : List Bool) (a : Int), Valid per es → (∀ x ∈ es, a ≤ x.t) → a ≤ per → ∀ x ∈ spansF per es on a, 0 ≤ x.1 ∧ x.2.length = on.length := by
  induction es with
  | nil =>
    intro on a _ _ ha x hx
    simp only [spansF, List.mem_singleton] at hx
    subst hx
    exact ⟨by simp; omega, rfl⟩
  | cons e es ih =>
    intro on a hv hx ha x hm
    have h1 := hv.ins 0 (by simp)
    simp only [List.getElem_cons_zero] at h1
    have hle := hv.head_le
    simp only [spansF] at hm
    by_cases hlt : a < e.t
    · rw [if_pos hlt] at hm
      rcases List.mem_cons.1 hm with rfl | hm
      · exact ⟨by simp; omega, rfl⟩
      · have := ih (step on e) e.t hv.tail hle (by omega) x hm
        rw [step_length] at this
        exact this
    · rw [if_neg hlt] at hm
      have hae := hx e (by simp)
      have := ih (step on e) a hv.tail (fun y hy => by have := hle y hy; omega) ha x hm
      rw [step_length] at this
      exact this

theorem spans_mem {per : Int} {on : List Bool} {es : List Ed} (hv : Valid per es) (hp : 64 ≤ per) : ∀ x ∈ spansOf per on es, 0 ≤ x.1 ∧ x.2.length = on.length :=
  spansF_nonneg per es on 0 hv (fun x hx => by
    obtain ⟨i, hi, rfl⟩ := List.getElem_of_mem hx
    exact (hv.ins i hi).1) (by omega)

theorem spansF_length (per : Int) (es : List Ed) : ∀ (on : List Bool) (a : Int), (spansF per es on a).length ≤ es.length + 1 := by
  induction es with
  | nil => intro on a; simp [spansF]
  | cons e es ih =>
    intro on a
    simp only [spansF]
    split
    · have := ih (step on e) e.t
      simp only [List.length_cons]
      omega
    · have := ih (step on e) a
      simp only [List.length_cons]
      omega
theorem spans_length {per : Int} {on : List Bool} {es : List Ed} : (spansOf per on es).length ≤ es.length + 1 := spansF_length per es on 0
theorem sumF_bounds (p : List Bool → Bool) (l : List (Int × List Bool)) (h : ∀ x ∈ l, 0 ≤ x.1) : 0 ≤ sumF p l ∧ sumF p l ≤ sumF (fun _ => true) l := by
  induction l with
  | nil => simp [sumF]
  | cons x l ih =>
    have h1 := h x (by simp)
    have h2 := ih (fun y hy => h y (by simp [hy]))
    simp only [sumF, if_true]
    split <;> omega
theorem sumF_take_succ {p : List Bool → Bool} {l : List (Int × List Bool)} {k : Nat} {x : Int × List Bool} (hx : l[k]? = some x) :
    sumF p (l.take (k + 1)) = sumF p (l.take k) + if p x.2 then x.1 else 0 := by
  obtain ⟨h, rfl⟩ := List.getElem?_eq_some_iff.1 hx
  rw [List.take_succ_eq_append_getElem h, sumF_append]
  simp [sumF]
theorem sum_bd {per : Int} {on : List Bool} {es : List Ed} (hc : chk per es = 0) (p : List Bool → Bool) {k : Nat} {x : Int × List Bool} (hx : (spansOf per on es)[k]? = some x) :
    0 ≤ x.1 ∧ 0 ≤ sumF p ((spansOf per on es).take k) ∧ sumF p ((spansOf per on es).take k) + x.1 ≤ per := by
  obtain ⟨hp, _, hv⟩ := chk_zero hc
  have hnn : ∀ y ∈ spansOf per on es, 0 ≤ y.1 := fun y hy => (spans_mem hv hp y hy).1
  have ht : sumF (fun _ => true) (spansOf per on es) = per := by
    rw [high_eq hc, cnt_const]; simp; omega
  have hall := ht
  rw [← List.take_append_drop (k + 1) (spansOf per on es), sumF_append, sumF_take_succ hx] at hall
  have hd := sumF_bounds (fun _ => true) ((spansOf per on es).drop (k + 1)) (fun y hy => hnn y (List.mem_of_mem_drop hy))
  have hk := sumF_bounds p ((spansOf per on es).take k) (fun y hy => hnn y (List.mem_of_mem_take hy))
  have hx0 := hnn x (List.mem_of_getElem? hx)
  simp only [if_true] at hall
  omega

/-- What a part adds to the high counts of a leg. -/
def addD (leg : Nat) (neg : Bool) (on : List Bool) (q : Int) : Int := if highB leg neg on then q else 0
theorem addD_yes {leg : Nat} {neg : Bool} {on : List Bool} {q : Int} (h : highB leg neg on = true) : addD leg neg on q = q := if_pos h
theorem addD_no {leg : Nat} {neg : Bool} {on : List Bool} {q : Int} (h : highB leg neg on = false) : addD leg neg on q = 0 := by unfold addD; rw [h]; rfl
theorem sumF_add {leg : Nat} {neg : Bool} {l : List (Int × List Bool)} {k : Nat} {q : Int} {on : List Bool} (hx : l[k]? = some (q, on)) :
    sumF (highB leg neg) (l.take (k + 1)) = sumF (highB leg neg) (l.take k) + addD leg neg on q := sumF_take_succ hx
theorem highB_0 (neg c0 c1 c2 c3 c4 c5 : Bool) : highB 0 neg [c0, c1, c2, c3, c4, c5] = (c0 || (!c1 && neg)) := rfl
theorem highB_1 (neg c0 c1 c2 c3 c4 c5 : Bool) : highB 1 neg [c0, c1, c2, c3, c4, c5] = (c2 || (!c3 && neg)) := rfl
theorem highB_2 (neg c0 c1 c2 c3 c4 c5 : Bool) : highB 2 neg [c0, c1, c2, c3, c4, c5] = (c4 || (!c5 && neg)) := rfl

/-- The high counts as High returns them: 0 with an error. -/
def hgh (per : Int) (on : List Bool) (es : List Ed) (leg : Nat) (cur : Int) : Int := if err per on es = 0 then highR per on es leg (decide (cur < 0)) else 0
theorem hgh_bd {per : Int} {on : List Bool} {es : List Ed} {leg : Nat} {cur : Int} : 0 ≤ hgh per on es leg cur ∧ hgh per on es leg cur ≤ 4096 := by
  unfold hgh
  split
  · rename_i h
    have hc : chk per es = 0 := by
      unfold err at h
      split at h
      · assumption
      · exact h
    obtain ⟨h1, h2, _⟩ := chk_zero hc
    have := cnt_nonneg (fun t => highB leg (decide (cur < 0)) (onAt on es t)) 0 per.toNat
    unfold highR
    omega
  · omega
theorem err_ok {per : Int} {on : List Bool} {es : List Ed} (h : err per on es = 0) : chk per es = 0 ∧ shortR per on es = false := by
  unfold err at h
  by_cases hc : chk per es = 0
  · rw [if_pos hc] at h
    refine ⟨hc, ?_⟩
    cases hs : shortR per on es
    · rfl
    · rw [hs] at h; cases h
  · rw [if_neg hc] at h; exact absurd h hc
theorem err_chk {per : Int} {on : List Bool} {es : List Ed} (h : chk per es ≠ 0) : err per on es = chk per es := if_neg h
theorem err_short {per : Int} {on : List Bool} {es : List Ed} (h : chk per es = 0) (hs : shortR per on es = true) : err per on es = 15 := by
  unfold err; rw [if_pos h, if_pos hs]
theorem err_zero {per : Int} {on : List Bool} {es : List Ed} (h : chk per es = 0) (hs : shortR per on es = false) : err per on es = 0 := by
  unfold err; rw [if_pos h, hs]; rfl
theorem hgh_err {per : Int} {on : List Bool} {es : List Ed} {leg : Nat} {cur : Int} (h : err per on es ≠ 0) : hgh per on es leg cur = 0 := if_neg h
theorem hgh_ok {per : Int} {on : List Bool} {es : List Ed} {leg : Nat} {cur : Int} (h : err per on es = 0) : hgh per on es leg cur = sumF (highB leg (decide (cur < 0))) (spansOf per on es) := by
  unfold hgh; rw [if_pos h, high_eq (err_ok h).1]; rfl
theorem hgh_cnt {per : Int} {on : List Bool} {es : List Ed} {leg : Nat} {cur : Int} (h : err per on es = 0) : hgh per on es leg cur = highR per on es leg (decide (cur < 0)) := if_pos h

end Go.Proofs.Ytgnojdiecgfeaaa
