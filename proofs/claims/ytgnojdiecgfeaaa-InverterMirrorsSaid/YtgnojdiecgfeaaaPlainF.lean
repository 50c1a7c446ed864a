/- Plain facts: signals with the switches of each leg exchanged. -/
import Derived.Test.YtgnojdiecgfeaaaPlainD
import Derived.Test.YtgnojdiecgfeaaaPlainE
namespace Go.Proofs.Ytgnojdiecgfeaaa

def fl (s : Int) : Int := bits .xor .i64 s 1
theorem fl_in {s : Int} (h0 : 0 ≤ s) (h5 : s ≤ 5) : fl s = s + 1 - 2 * (s % 2) := by
  have h : s = 0 ∨ s = 1 ∨ s = 2 ∨ s = 3 ∨ s = 4 ∨ s = 5 := by omega
  rcases h with rfl | rfl | rfl | rfl | rfl | rfl <;> decide
def flE (e : Ed) : Ed := ⟨e.t, fl e.s, e.o⟩
/-- The last two edges are exchanged where they lie at one count and in the wrong order. -/
def swapsE (acc : List Ed) (e : Ed) : Bool := match acc.getLast? with
  | none => false
  | some q => decide (q.t = e.t) && decide (fl e.s < q.s)
def mir1 (acc : List Ed) (e : Ed) : List Ed := match acc.getLast? with
  | none => [flE e]
  | some q => if q.t = e.t ∧ fl e.s < q.s then acc.dropLast ++ [flE e, q] else acc ++ [flE e]
def mirror (es : List Ed) : List Ed := es.foldl mir1 []
theorem mirror_take {es : List Ed} {k : Nat} {e : Ed} (he : es[k]? = some e) : mirror (es.take (k + 1)) = mir1 (mirror (es.take k)) e := by
  obtain ⟨h, rfl⟩ := List.getElem?_eq_some_iff.1 he
  unfold mirror
  rw [List.take_succ_eq_append_getElem h, List.foldl_append]
  rfl
theorem mir1_nil (e : Ed) : mir1 [] e = [flE e] := rfl
theorem mir1_swap {pre : List Ed} {q e : Ed} (h1 : q.t = e.t) (h2 : fl e.s < q.s) : mir1 (pre ++ [q]) e = pre ++ [flE e, q] := by
  simp [mir1, h1, h2]
theorem mir1_plain {pre : List Ed} {q e : Ed} (h : ¬ (q.t = e.t ∧ fl e.s < q.s)) : mir1 (pre ++ [q]) e = pre ++ [q] ++ [flE e] := by
  simp [mir1, h]
theorem mir1_length (acc : List Ed) (e : Ed) : (mir1 acc e).length = acc.length + 1 := by
  unfold mir1
  split
  · rename_i h
    rw [List.getLast?_eq_none_iff] at h
    subst h
    rfl
  · rename_i q h
    split
    · have : acc ≠ [] := by rintro rfl; simp at h
      have := List.length_pos_iff.2 this
      simp only [List.length_append, List.length_dropLast, List.length_cons, List.length_nil]
      omega
    · simp
theorem mirror_take_length {es : List Ed} {k : Nat} (hk : k ≤ es.length) : (mirror (es.take k)).length = k := by
  induction k with
  | zero => rfl
  | succ k ih =>
    rw [mirror_take (List.getElem?_eq_getElem (by omega)), mir1_length, ih (by omega)]

/-- Ahead of the leg of an edge. -/
def bef (x q : Ed) : Prop := x.t < q.t ∨ (x.t = q.t ∧ x.s < q.s - q.s % 2)
/-- What the exchanged edges look like behind edge q. -/
def Mi (per : Int) (acc : List Ed) (q : Ed) : Prop :=
  (∀ x ∈ acc, 0 ≤ x.t ∧ x.t < per ∧ 0 ≤ x.s ∧ x.s ≤ 5) ∧ acc.Pairwise ltE ∧ ∃ a, (∀ x ∈ a, bef x q) ∧ (acc = a ++ [flE q] ∨ ∃ p, q.s % 2 = 1 ∧ p.t = q.t ∧ p.s = q.s ∧ acc = a ++ [flE q, p])
theorem mi_first {per : Int} {e : Ed} (h : 0 ≤ e.t ∧ e.t < per ∧ 0 ≤ e.s ∧ e.s ≤ 5) : Mi per (mir1 [] e) e := by
  have hf := fl_in h.2.2.1 h.2.2.2
  refine ⟨?_, by simp [mir1_nil], [], by simp, .inl rfl⟩
  intro x hx
  simp only [mir1_nil, List.mem_singleton] at hx
  subst hx
  simp only [flE, hf]
  omega
theorem mi_append {per : Int} {acc : List Ed} {e : Ed} (h : 0 ≤ e.t ∧ e.t < per ∧ 0 ≤ e.s ∧ e.s ≤ 5) (hr : ∀ x ∈ acc, 0 ≤ x.t ∧ x.t < per ∧ 0 ≤ x.s ∧ x.s ≤ 5) (hp : acc.Pairwise ltE) (hb : ∀ x ∈ acc, bef x e) : Mi per (acc ++ [flE e]) e := by
  have hf := fl_in h.2.2.1 h.2.2.2
  refine ⟨?_, ?_, acc, hb, .inl rfl⟩
  · intro x hx
    rcases List.mem_append.1 hx with hx | hx
    · exact hr x hx
    · simp only [List.mem_singleton] at hx
      subst hx
      simp only [flE, hf]
      omega
  · rw [List.pairwise_append]
    refine ⟨hp, by simp, ?_⟩
    intro x hx y hy
    simp only [List.mem_singleton] at hy
    subst hy
    have := hb x hx
    unfold bef at this
    unfold ltE
    simp only [flE, hf]
    omega
theorem mi_next {per : Int} {acc : List Ed} {q e : Ed} (hm : Mi per acc q) (hq : 0 ≤ q.s ∧ q.s ≤ 5) (h : 0 ≤ e.t ∧ e.t < per ∧ 0 ≤ e.s ∧ e.s ≤ 5) (hlt : ltE q e) : Mi per (mir1 acc e) e := by
  have hf := fl_in h.2.2.1 h.2.2.2
  have hfq := fl_in hq.1 hq.2
  unfold ltE at hlt
  obtain ⟨hr, hp, a, ha, hacc⟩ := hm
  rcases hacc with rfl | ⟨p, hodd, hpt, hps, rfl⟩
  · by_cases hs : (flE q).t = e.t ∧ fl e.s < (flE q).s
    · rw [mir1_swap hs.1 hs.2]
      simp only [flE, hf, hfq] at hs
      rw [List.pairwise_append] at hp
      refine ⟨?_, ?_, a, ?_, .inr ⟨flE q, ?_, ?_, ?_, rfl⟩⟩
      · intro x hx
        rcases List.mem_append.1 hx with hx | hx
        · exact hr x (List.mem_append_left _ hx)
        · simp only [List.mem_cons, List.not_mem_nil, or_false] at hx
          rcases hx with rfl | rfl
          · simp only [flE, hf]; omega
          · simp only [flE, hfq]; omega
      · rw [List.pairwise_append]
        refine ⟨hp.1, ?_, ?_⟩
        · simp only [List.pairwise_cons, List.mem_singleton, forall_eq]
          refine ⟨?_, by simp, List.Pairwise.nil⟩
          unfold ltE
          simp only [flE, hf, hfq]
          omega
        · intro x hx y hy
          have hbx := ha x hx
          unfold bef at hbx
          simp only [List.mem_cons, List.not_mem_nil, or_false] at hy
          unfold ltE
          rcases hy with rfl | rfl
          · simp only [flE, hf]; omega
          · simp only [flE, hfq]; omega
      · intro x hx
        have hbx := ha x hx
        unfold bef at hbx ⊢
        omega
      · omega
      · simp only [flE]; omega
      · simp only [flE, hfq]; omega
    · rw [mir1_plain hs]
      simp only [flE, hf, hfq] at hs
      refine mi_append h hr hp ?_
      intro x hx
      rcases List.mem_append.1 hx with hx | hx
      · have hbx := ha x hx
        unfold bef at hbx ⊢
        omega
      · simp only [List.mem_singleton] at hx
        subst hx
        unfold bef
        simp only [flE, hfq]
        omega
  · rw [show a ++ [flE q, p] = (a ++ [flE q]) ++ [p] from by simp] at hr hp ⊢
    rw [mir1_plain (by rw [hf]; omega)]
    refine mi_append h hr hp ?_
    intro x hx
    rcases List.mem_append.1 hx with hx | hx
    · rcases List.mem_append.1 hx with hx | hx
      · have hbx := ha x hx
        unfold bef at hbx ⊢
        omega
      · simp only [List.mem_singleton] at hx
        subst hx
        unfold bef
        simp only [flE, hfq]
        omega
    · simp only [List.mem_singleton] at hx
      subst hx
      unfold bef
      omega
theorem mirror_mi {per : Int} {es : List Ed} (hv : Valid per es) : ∀ k (hk : k < es.length), Mi per (mirror (es.take (k + 1))) es[k] := by
  intro k
  induction k with
  | zero =>
    intro hk
    rw [mirror_take (List.getElem?_eq_getElem hk)]
    exact mi_first (hv.ins 0 hk)
  | succ k ih =>
    intro hk
    rw [mirror_take (List.getElem?_eq_getElem hk)]
    exact mi_next (ih (by omega)) ⟨(hv.ins k (by omega)).2.2.1, (hv.ins k (by omega)).2.2.2⟩ (hv.ins (k + 1) hk) (hv.next k hk)
theorem mirror_valid {per : Int} {es : List Ed} (hv : Valid per es) : Valid per (mirror es) := by
  rcases Nat.eq_zero_or_pos es.length with h | h
  · rw [List.length_eq_zero_iff] at h
    subst h
    exact hv
  · have := mirror_mi hv (es.length - 1) (by omega)
    rw [show es.length - 1 + 1 = es.length from by omega, List.take_length] at this
    exact valid_pairs.2 ⟨this.1, this.2.1⟩
theorem mirror_chk {per : Int} {es : List Ed} (h : chk per es = 0) : chk per (mirror es) = 0 := by
  obtain ⟨h1, h2, hv⟩ := chk_zero h
  unfold chk
  rw [if_pos (by simp only [perOk, Bool.and_eq_true, decide_eq_true_eq]; exact ⟨h1, h2⟩), if_pos ((valid_iff _ _).2 (mirror_valid hv))]

/-- The states with the switches of each leg exchanged. -/
def swp (on : List Bool) : List Bool := [on.getD 1 false, on.getD 0 false, on.getD 3 false, on.getD 2 false, on.getD 5 false, on.getD 4 false]
theorem swp_step {on : List Bool} {e : Ed} (hl : on.length = 6) (h0 : 0 ≤ e.s) (h5 : e.s ≤ 5) : swp (step on e) = step (swp on) (flE e) := by
  obtain ⟨t, s, o⟩ := e
  simp only at h0 h5
  match on, hl with
  | [a, b, c, d, f, g], _ =>
    have h : s = 0 ∨ s = 1 ∨ s = 2 ∨ s = 3 ∨ s = 4 ∨ s = 5 := by omega
    have f0 : fl 0 = 1 := by decide
    have f1 : fl 1 = 0 := by decide
    have f2 : fl 2 = 3 := by decide
    have f3 : fl 3 = 2 := by decide
    have f4 : fl 4 = 5 := by decide
    have f5 : fl 5 = 4 := by decide
    unfold flE step
    rcases h with rfl | rfl | rfl | rfl | rfl | rfl
    · simp only [f0]; rfl
    · simp only [f1]; rfl
    · simp only [f2]; rfl
    · simp only [f3]; rfl
    · simp only [f4]; rfl
    · simp only [f5]; rfl
theorem swp_length (on : List Bool) : (swp on).length = 6 := rfl
theorem onAt_append (on : List Bool) (a b : List Ed) (t : Int) : onAt on (a ++ b) t = onAt (onAt on a t) b t := by unfold onAt; rw [List.foldl_append]
theorem step_comm (on : List Bool) {a b : Ed} (h : a.s.toNat ≠ b.s.toNat) : step (step on a) b = step (step on b) a := by
  unfold step
  rw [List.set_comm _ _ h]
theorem onAt_one (on : List Bool) (a : Ed) (t : Int) : onAt on [a] t = if a.t ≤ t then step on a else on := rfl
theorem onAt_two (on : List Bool) (a b : Ed) (t : Int) : onAt on [a, b] t = if b.t ≤ t then step (if a.t ≤ t then step on a else on) b else if a.t ≤ t then step on a else on := rfl
theorem onAt_mir1 (on : List Bool) {acc : List Ed} {e : Ed} (t : Int) (hs : ∀ x ∈ acc, 0 ≤ x.s) (hf : 0 ≤ fl e.s) : onAt on (mir1 acc e) t = if e.t ≤ t then step (onAt on acc t) (flE e) else onAt on acc t := by
  rcases List.eq_nil_or_concat acc with rfl | ⟨pre, q, rfl⟩
  · rw [mir1_nil, onAt_one]
    rfl
  · rw [List.concat_eq_append] at *
    by_cases h : q.t = e.t ∧ fl e.s < q.s
    · rw [mir1_swap h.1 h.2, onAt_append, onAt_append, onAt_two, onAt_one]
      have hq := hs q (by simp)
      have e1 : (flE e).t = e.t := rfl
      rw [e1, h.1]
      by_cases ht : e.t ≤ t
      · rw [if_pos ht, if_pos ht, if_pos ht, if_pos ht]
        exact step_comm _ (by show (fl e.s).toNat ≠ q.s.toNat; omega)
      · rw [if_neg ht, if_neg ht, if_neg ht, if_neg ht]
    · rw [mir1_plain h, onAt_append, onAt_one]
      rfl
theorem onAt_mirror {per : Int} {on : List Bool} {es : List Ed} (hv : Valid per es) (hl : on.length = 6) (t : Int) : ∀ k, k ≤ es.length → onAt (swp on) (mirror (es.take k)) t = swp (onAt on (es.take k) t) := by
  intro k
  induction k with
  | zero => intro _; rfl
  | succ k ih =>
    intro hk
    have hkl : k < es.length := by omega
    have hi := hv.ins k hkl
    have hf := fl_in hi.2.2.1 hi.2.2.2
    rw [mirror_take (List.getElem?_eq_getElem hkl), onAt_mir1 _ _ ?_ (by omega), ih (by omega), List.take_succ_eq_append_getElem hkl, onAt_append, onAt_one]
    · split
      · rw [swp_step (by rw [onAt_length]; exact hl) hi.2.2.1 hi.2.2.2]
      · rfl
    · intro x hx
      rcases Nat.eq_zero_or_pos k with h | h
      · subst h
        simp [mirror] at hx
      · have := mirror_mi hv (k - 1) (by omega)
        rw [show k - 1 + 1 = k from by omega] at this
        exact (this.1 x hx).2.2.1
theorem onAt_mirror_all {per : Int} {on : List Bool} {es : List Ed} (hv : Valid per es) (hl : on.length = 6) (t : Int) : onAt (swp on) (mirror es) t = swp (onAt on es t) := by
  have := onAt_mirror hv hl t es.length (Nat.le_refl _)
  rwa [List.take_length] at this
theorem swp_short {b : List Bool} : shortB (swp b) = shortB b := by
  simp only [shortB, swp]
  show (_ && _ || _ && _ || _ && _) = _
  simp only [List.getD_cons_zero, List.getD_cons_succ]
  cases b.getD 0 false <;> cases b.getD 1 false <;> cases b.getD 2 false <;> cases b.getD 3 false <;> cases b.getD 4 false <;> cases b.getD 5 false <;> rfl
theorem swp_high {b : List Bool} (hs : shortB b = false) {leg : Nat} (hl : leg < 3) (neg : Bool) : highB leg (!neg) (swp b) = !highB leg neg b := by
  have h := shortB_leg hs hl
  match leg, hl with
  | 0, _ =>
    simp only [highB, swp, Nat.mul_zero, Nat.zero_add, List.getD_cons_zero, List.getD_cons_succ] at h ⊢
    revert h
    cases b.getD 0 false <;> cases b.getD 1 false <;> cases neg <;> simp
  | 1, _ =>
    simp only [highB, swp, Nat.mul_one, Nat.reduceAdd, List.getD_cons_zero, List.getD_cons_succ] at h ⊢
    revert h
    cases b.getD 2 false <;> cases b.getD 3 false <;> cases neg <;> simp
  | 2, _ =>
    simp only [highB, swp, Nat.reduceMul, Nat.reduceAdd, List.getD_cons_zero, List.getD_cons_succ] at h ⊢
    revert h
    cases b.getD 4 false <;> cases b.getD 5 false <;> cases neg <;> simp
theorem mirror_short {per : Int} {on : List Bool} {es : List Ed} (hv : Valid per es) (hl : on.length = 6) : shortR per (swp on) (mirror es) = shortR per on es := by
  unfold shortR rowsF
  rw [List.any_map, List.any_map]
  congr 1
  funext t
  show shortB (onAt (swp on) (mirror es) (t : Int)) = shortB (onAt on es (t : Int))
  rw [onAt_mirror_all hv hl, swp_short]
theorem mirror_err {per : Int} {on : List Bool} {es : List Ed} (h : err per on es = 0) (hl : on.length = 6) : err per (swp on) (mirror es) = 0 := by
  obtain ⟨hc, hs⟩ := err_ok h
  exact err_zero (mirror_chk hc) (by rw [mirror_short (chk_zero hc).2.2 hl]; exact hs)
theorem mirror_high {per : Int} {on : List Bool} {es : List Ed} (h : err per on es = 0) (hl : on.length = 6) {leg : Nat} (hg : leg < 3) {i j : Int} (hij : decide (j < 0) = !decide (i < 0)) :
    hgh per (swp on) (mirror es) leg j = per - hgh per on es leg i := by
  obtain ⟨hc, hs⟩ := err_ok h
  obtain ⟨hp1, _, hv⟩ := chk_zero hc
  rw [hgh_cnt (mirror_err h hl), hgh_cnt h]
  unfold highR
  rw [hij, cnt_congr (q := fun t => !highB leg (decide (i < 0)) (onAt on es t)), cnt_not]
  · omega
  · intro x h1 h2
    rw [onAt_mirror_all hv hl]
    exact swp_high (short_no hs x h1 h2) hg _

end Go.Proofs.Ytgnojdiecgfeaaa
