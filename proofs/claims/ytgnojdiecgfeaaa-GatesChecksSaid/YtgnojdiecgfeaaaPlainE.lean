/- Plain facts: signals without broken switches. -/
import Derived.Test.YtgnojdiecgfeaaaPlainB
namespace Go.Proofs.Ytgnojdiecgfeaaa

/-- An edge stays: its switch does not exist, or is not broken. -/
def keepE (ks : List Bool) (e : Ed) : Bool := decide (e.s < 0) || (decide (5 < e.s) || !ks.getD e.s.toNat false)
def brk (ks : List Bool) (es : List Ed) : List Ed := es.filter (keepE ks)
theorem brk_take_yes {ks : List Bool} {es : List Ed} {k : Nat} {e : Ed} (he : es[k]? = some e) (h : keepE ks e = true) : brk ks (es.take (k + 1)) = brk ks (es.take k) ++ [e] := by
  obtain ⟨h1, rfl⟩ := List.getElem?_eq_some_iff.1 he
  unfold brk
  rw [List.take_succ_eq_append_getElem h1, List.filter_append]
  simp [h]
theorem brk_take_no {ks : List Bool} {es : List Ed} {k : Nat} {e : Ed} (he : es[k]? = some e) (h : keepE ks e = false) : brk ks (es.take (k + 1)) = brk ks (es.take k) := by
  obtain ⟨h1, rfl⟩ := List.getElem?_eq_some_iff.1 he
  unfold brk
  rw [List.take_succ_eq_append_getElem h1, List.filter_append]
  simp [h]
theorem brk_length (ks : List Bool) (es : List Ed) : (brk ks es).length ≤ es.length := List.length_filter_le _ _
def brkOn (on ks : List Bool) : List Bool := List.zipWith (fun b k => b && !k) on ks

/-- Strictly ahead of. -/
def ltE (a b : Ed) : Prop := a.t < b.t ∨ (a.t = b.t ∧ a.s < b.s)
theorem ltE_trans {a b c : Ed} (h1 : ltE a b) (h2 : ltE b c) : ltE a c := by unfold ltE at *; omega
theorem valid_pairs {per : Int} {es : List Ed} : Valid per es ↔ (∀ x ∈ es, 0 ≤ x.t ∧ x.t < per ∧ 0 ≤ x.s ∧ x.s ≤ 5) ∧ es.Pairwise ltE := by
  constructor
  · intro h
    refine ⟨fun x hx => ?_, ?_⟩
    · obtain ⟨i, hi, rfl⟩ := List.getElem_of_mem hx
      exact h.ins i hi
    · rw [List.pairwise_iff_getElem]
      intro i j hi hj hij
      induction j with
      | zero => omega
      | succ j ih =>
        by_cases e : i = j
        · subst e; exact h.next i hj
        · exact ltE_trans (ih (by omega) (by omega)) (h.next j hj)
  · rintro ⟨h1, h2⟩
    rw [List.pairwise_iff_getElem] at h2
    exact ⟨fun i hi => h1 _ (List.getElem_mem hi), fun i hi => h2 i (i + 1) (by omega) hi (by omega)⟩
theorem brk_valid {per : Int} {es : List Ed} (ks : List Bool) (h : Valid per es) : Valid per (brk ks es) := by
  rw [valid_pairs] at h ⊢
  exact ⟨fun x hx => h.1 x (List.mem_filter.1 hx).1, h.2.filter _⟩
theorem brk_chk {per : Int} {es : List Ed} (ks : List Bool) (h : chk per es = 0) : chk per (brk ks es) = 0 := by
  obtain ⟨h1, h2, hv⟩ := chk_zero h
  unfold chk
  rw [if_pos (by simp only [perOk, Bool.and_eq_true, decide_eq_true_eq]; exact ⟨h1, h2⟩), if_pos ((valid_iff _ _).2 (brk_valid ks hv))]

/-- The states with and without broken switches agree but for the broken ones. -/
def agree (ks on on' : List Bool) : Prop := ∀ j, on'.getD j false = true → on.getD j false = true ∧ ks.getD j false = false
theorem getD_set (l : List Bool) (i j : Nat) (b : Bool) : (l.set i b).getD j false = if i = j ∧ i < l.length then b else l.getD j false := by
  simp only [List.getD, List.getElem?_set]
  by_cases h : i = j
  · subst h
    by_cases hl : i < l.length
    · simp [hl]
    · simp [hl]
  · simp [h]
theorem agree_step {ks on on' : List Bool} {e : Ed} (hlen : on'.length = on.length) (h : agree ks on on') (h0 : 0 ≤ e.s) (h5 : e.s ≤ 5) : agree ks (step on e) (if keepE ks e then step on' e else on') := by
  intro j
  cases hk : keepE ks e with
  | true =>
    simp only [if_true]
    have hnb : ks.getD e.s.toNat false = false := by
      simp only [keepE, Bool.or_eq_true, decide_eq_true_eq, Bool.not_eq_true'] at hk
      rcases hk with h1 | h1 | h1
      · omega
      · omega
      · exact h1
    unfold step
    rw [getD_set, getD_set, hlen]
    by_cases hj : e.s.toNat = j ∧ e.s.toNat < on.length
    · rw [if_pos hj, if_pos hj]
      intro ho
      exact ⟨ho, by rw [← hj.1]; exact hnb⟩
    · rw [if_neg hj, if_neg hj]
      exact h j
  | false =>
    simp only [Bool.false_eq_true, if_false]
    have hb : ks.getD e.s.toNat false = true := by
      simp only [keepE, Bool.or_eq_false_iff, Bool.not_eq_false'] at hk
      exact hk.2.2
    unfold step
    rw [getD_set]
    intro ho
    obtain ⟨h1, h2⟩ := h j ho
    by_cases hj : e.s.toNat = j ∧ e.s.toNat < on.length
    · rw [hj.1] at hb
      rw [hb] at h2
      cases h2
    · rw [if_neg hj]
      exact ⟨h1, h2⟩
theorem agree_onAt {ks : List Bool} {t : Int} (es : List Ed) : ∀ (on on' : List Bool), on'.length = on.length → (∀ x ∈ es, 0 ≤ x.s ∧ x.s ≤ 5) → agree ks on on' → agree ks (onAt on es t) (onAt on' (brk ks es) t) := by
  induction es with
  | nil => intro on on' _ _ h; exact h
  | cons e es ih =>
    intro on on' hl hs h
    have he := hs e (by simp)
    rw [onAt_cons]
    have hst := agree_step hl h he.1 he.2
    unfold brk at ih ⊢
    rw [List.filter_cons]
    by_cases ht : e.t ≤ t
    · rw [if_pos ht]
      cases hk : keepE ks e with
      | true =>
        rw [hk] at hst
        simp only [if_true] at hst ⊢
        rw [onAt_cons, if_pos ht]
        exact ih _ _ (by rw [step_length, step_length, hl]) (fun x hx => hs x (by simp [hx])) hst
      | false =>
        rw [hk] at hst
        simp only [Bool.false_eq_true, if_false] at hst ⊢
        exact ih _ _ (by rw [step_length, hl]) (fun x hx => hs x (by simp [hx])) hst
    · rw [if_neg ht]
      cases hk : keepE ks e with
      | true =>
        simp only [if_true]
        rw [onAt_cons, if_neg ht]
        exact ih _ _ hl (fun x hx => hs x (by simp [hx])) h
      | false =>
        simp only [Bool.false_eq_true, if_false]
        exact ih _ _ hl (fun x hx => hs x (by simp [hx])) h
theorem agree_short {ks on on' : List Bool} (h : agree ks on on') (hs : shortB on' = true) : shortB on = true := by
  unfold shortB at hs ⊢
  simp only [Bool.or_eq_true, Bool.and_eq_true] at hs ⊢
  rcases hs with (hs | hs) | hs
  · exact .inl (.inl ⟨(h _ hs.1).1, (h _ hs.2).1⟩)
  · exact .inl (.inr ⟨(h _ hs.1).1, (h _ hs.2).1⟩)
  · exact .inr ⟨(h _ hs.1).1, (h _ hs.2).1⟩
theorem brk_short {per : Int} {on on' ks : List Bool} {es : List Ed} (hv : Valid per es) (hl : on'.length = on.length) (h : agree ks on on') (hs : shortR per on' (brk ks es) = true) : shortR per on es = true := by
  unfold shortR rowsF at hs ⊢
  rw [List.any_eq_true] at hs ⊢
  obtain ⟨x, hx, hsx⟩ := hs
  obtain ⟨t, ht, rfl⟩ := List.mem_map.1 hx
  refine ⟨_, List.mem_map.2 ⟨t, ht, rfl⟩, agree_short (agree_onAt es on on' hl (fun x hx => ?_) h) hsx⟩
  exact ⟨((valid_pairs.1 hv).1 x hx).2.2.1, ((valid_pairs.1 hv).1 x hx).2.2.2⟩
theorem agree_six (b0 b1 b2 b3 b4 b5 k0 k1 k2 k3 k4 k5 : Bool) : agree [k0, k1, k2, k3, k4, k5] [b0, b1, b2, b3, b4, b5] [b0 && !k0, b1 && !k1, b2 && !k2, b3 && !k3, b4 && !k4, b5 && !k5] := by
  intro j
  match j with
  | 0 => simp
  | 1 => simp
  | 2 => simp
  | 3 => simp
  | 4 => simp
  | 5 => simp
  | j + 6 => simp

end Go.Proofs.Ytgnojdiecgfeaaa
