/- Regions that draw their order: operations that only read (and calls that change nothing) come first, what writes comes last, one behind the other; a plain copy of a slot need not be waited for. -/
import Derived.StillTail
import Derived.StillTailTactics
import Derived.BigRegion
namespace Go.Proofs.YtpfkiohknpeifaaGreat
open Go
section
variable {P : Program} {ops : Array Oper} {Q : Exit → Act → World → Prop} {md : Region.Mode}
/-- Does operation j wait for operation i, directly or through others? -/
def waits (md : Region.Mode) (ops : Array Oper) : Nat → Nat → Nat → Bool
  | 0, _, _ => false
  | f + 1, j, i => ((ops[j]?).map fun o => o.after.any fun e => Region.binds md e && (e.on == i || waits md ops f e.on i)).getD false
/-- What is listed has all listed that it waits for. -/
def Shut (md : Region.Mode) (ops : Array Oper) (listed : Array Bool) : Prop :=
  ∀ j oj, ops[j]? = some oj → listed.getD j false = true → ∀ e ∈ oj.after, Region.binds md e = true → listed.getD e.on false = true
theorem shut_set {listed : Array Bool} {i : Nat} (h : Shut md ops listed) (hi : i ∈ Region.ready md ops listed) : Shut md ops (listed.setIfInBounds i true) := by
  obtain ⟨_, oi, hoi, hall⟩ := mem_ready.1 hi
  intro j oj hj hl e he hb
  by_cases hij : i = j
  · subst hij
    obtain rfl : oj = oi := Option.some.inj (hj.symm.trans hoi)
    exact getD_set_true (hall e he hb)
  · rw [getD_set_ne false hij] at hl
    exact getD_set_true (h j oj hj hl e he hb)
theorem waits_spec {listed : Array Bool} {i : Nat} (hc : Shut md ops listed) (hi : listed.getD i false = false) :
    ∀ f j, waits md ops f j i = true → listed.getD j false = false ∧ j ∉ Region.ready md ops listed
  | 0, _, h => by simp [waits] at h
  | f + 1, j, h => by
    cases ho : ops[j]? with
    | none => simp [waits, ho] at h
    | some o =>
      simp only [waits, ho, Option.map_some, Option.getD_some] at h
      obtain ⟨e, he, hb⟩ := Array.any_eq_true'.1 h
      simp only [Bool.and_eq_true, Bool.or_eq_true, beq_iff_eq] at hb
      have hn : listed.getD e.on false = false := by
        rcases hb.2 with h2 | h2
        · rw [h2]; exact hi
        · exact (waits_spec hc hi f e.on h2).1
      constructor
      · cases hl : listed.getD j false with
        | false => rfl
        | true => have := hc j o ho hl e he hb.1; rw [hn] at this; cases this
      · intro hr
        obtain ⟨_, o', ho', hall⟩ := mem_ready.1 hr
        obtain rfl : o' = o := Option.some.inj (ho'.symm.trans ho)
        have := hall e he hb.1
        rw [hn] at this; cases this
/-- Any order; those below n only read. -/
def wpM (P : Program) (md : Region.Mode) (ops : Array Oper) (Q : Exit → Act → World → Prop) (n : Nat) : Nat → Array Bool → Act → World → Prop
  | 0, listed, a, w => Region.ready md ops listed = [] ∧ Q .normal a w
  | f + 1, listed, a, w => (Region.ready md ops listed = [] → Q .normal a w) ∧ ∀ i ∈ Region.ready md ops listed,
      (i < n → stOp P ops w i (fun a' => wpM P md ops Q n f (listed.setIfInBounds i true) a' w) a) ∧ (n ≤ i → wpOp P ops Q i (wpM P md ops Q n f (listed.setIfInBounds i true)) a w)
theorem wpM_any {n : Nat} : ∀ (f : Nat) (listed : Array Bool) (a : Act) (w : World), wpM P md ops Q n f listed a w → wpAny P md ops Q f listed a w
  | 0, _, _, _, h => h
  | f + 1, listed, a, w, h => ⟨h.1, fun i hi => by
      rcases Nat.lt_or_ge i n with hn | hn
      · exact wpOp_of_stOp (fun a' h' => wpM_any f _ a' w h') ((h.2 i hi).1 hn)
      · exact wpOp_mono (fun a' w' h' => wpM_any f _ a' w' h') ((h.2 i hi).2 hn)⟩
theorem yieldsAt_of {w : World} {o : Oper} {v : Value} {a : Act} (h : Yields P ops o v a) : YieldsAt P ops w o v a := by
  rcases h with ⟨h1, h2⟩ | h
  · exact .inl ⟨h1, .inl (h2 w)⟩
  · exact .inr h
theorem wpM_first {n i F : Nat} {oi : Oper} {v : Value} (hi : ops[i]? = some oi) (hsel : ∀ (j : Nat) (o : Oper) cs b, ops[j]? = some o → o.op ≠ .select cs b)
    (hQ : ∀ c a w, Q (.panic c) (a.put oi.dst v) w → Q (.panic c) a w) :
    ∀ (f : Nat) (listed : Array Bool) (a : Act) (w : World), Shut md ops listed →
      (∀ j oj, ops[j]? = some oj → j ≠ i → listed.getD j true = false → (∀ e ∈ oj.after, Region.binds md e = true → e.on ≠ i) → oi.apart ops oj = true) →
      i ∈ Region.ready md ops listed → i < n → YieldsAt P ops w oi v a → (Yields P ops oi v a ∨ ∀ j, n ≤ j → j < ops.size → waits md ops F j i = true) →
      wpM P md ops Q n f (listed.setIfInBounds i true) (a.put oi.dst v) w → wpM P md ops Q n (f + 1) listed a w := by
  intro f
  induction f with
  | zero =>
    intro listed a w hc _ hr hin hy _ H
    refine ⟨fun h => (by rw [h] at hr; cases hr), fun j hj => ?_⟩
    by_cases hji : j = i
    · subst hji
      exact ⟨fun _ => hy.stOp hi H, fun h => absurd hin (by omega)⟩
    · have := ready_mono hj hji
      rw [H.1] at this; cases this
  | succ f ih =>
    intro listed a w hc hfree hr hin hy hw H
    refine ⟨fun h => (by rw [h] at hr; cases hr), fun j hj => ?_⟩
    by_cases hji : j = i
    · subst hji
      exact ⟨fun _ => hy.stOp hi H, fun h => absurd hin (by omega)⟩
    have hun : listed.getD i false = false := by
      have := (mem_ready.1 hr).1
      cases h : listed.getD i false with
      | false => rfl
      | true =>
        have hlt : i < listed.size := by
          rcases Nat.lt_or_ge i listed.size with h' | h'
          · exact h'
          · simp [Array.getElem?_eq_none h'] at h
        simp [hlt] at this h
        rw [h] at this; cases this
    obtain ⟨hjun, oj, hoj, hall⟩ := mem_ready.1 hj
    have hno : ∀ e ∈ oj.after, Region.binds md e = true → e.on ≠ i := fun e he hb heq => by
      have h1 := hall e he hb
      rw [heq, hun] at h1; cases h1
    have hap := hfree j oj hoj hji hjun hno
    obtain ⟨a1, a2, a3⟩ := Oper.apart_spec hap
    have hfree' : ∀ k ok, ops[k]? = some ok → k ≠ i → (listed.setIfInBounds j true).getD k true = false → (∀ e ∈ ok.after, Region.binds md e = true → e.on ≠ i) → oi.apart ops ok = true := fun k ok hk hki hkun hkno => by
      refine hfree k ok hk hki ?_ hkno
      by_cases hjk : j = k
      · subst hjk; exact hjun
      · rw [getD_set_ne true hjk] at hkun; exact hkun
    have hr' := ready_mono hr (Ne.symm hji)
    have H2 := H.2 j (ready_mono hj hji)
    have hcm : (listed.setIfInBounds i true).setIfInBounds j true = (listed.setIfInBounds j true).setIfInBounds i true := Array.setIfInBounds_comm _ _ (Ne.symm hji)
    refine ⟨fun hjn => ?_, fun hjn => ?_⟩
    · obtain ⟨u, hyu, hK⟩ := yieldsAt_of_stOp hoj (H2.1 hjn)
      have hyu' : YieldsAt P ops w oj u a := hyu.of_same (execOp_put oj (fun cs b => hsel j oj cs b hoj) a oi.dst v a1).symm (wanted_put oj a oi.dst v a1).symm
      refine hyu'.stOp hoj (ih _ _ w (shut_set hc hj) hfree' hr' hin ?_ ?_ ?_)
      · exact hy.of_same (execOp_put oi (fun cs b => hsel i oi cs b hi) a oj.dst u a3) (wanted_put oi a oj.dst u a3)
      · exact hw.imp (fun h => h.of_same (execOp_put oi (fun cs b => hsel i oi cs b hi) a oj.dst u a3) (wanted_put oi a oj.dst u a3)) id
      · rw [← hcm, ← Act.put_comm a v u a2]; exact hK
    · rcases hw with hw | hw
      · have h2 := wpOp_put hoj hap (fun cs b => hsel i oi cs b hi) (fun cs b => hsel j oj cs b hoj) hQ hw (H2.2 hjn)
        refine wpOp_mono (fun a' w' h3 => ih _ a' w' (shut_set hc hj) hfree' hr' hin (yieldsAt_of h3.1) (.inl h3.1) ?_) h2
        rw [← hcm]; exact h3.2
      · have hlt : j < ops.size := (Array.getElem?_eq_some_iff.1 hoj).1
        exact absurd hj (waits_spec hc hun F j (hw j hjn hlt)).2
/-- Is an operation a plain copy of a slot, or of a part of one? -/
def isMove (o : Oper) : Bool := match o.op, o.guard with
  | .move _, none => true
  | .extract _ _, none => true
  | _, _ => false
theorem run_extract {ρ : Operand → Value} {o : Oper} (x : Operand) (i : Nat) (h : o.op = .extract x i) (w : World) : (∃ v, ∀ w', (execOp ρ o).run P w' = .ok (.value v) w') ∨ ∃ e, (execOp ρ o).run P w = .halt e w := by
  unfold execOp
  simp only [h, Instr.extract]
  cases ρ x with
  | tuple vs =>
    cases hv : vs[i]? with
    | some v => exact .inl ⟨v, fun w' => by simp [hv]⟩
    | none => exact .inr ⟨_, by simp [stuck, hv]; rfl⟩
  | _ => exact .inr ⟨_, by simp [stuck]; rfl⟩
theorem yields_move {o : Oper} {a : Act} {v : Value} {w : World} (h : isMove o = true) (hy : YieldsAt P ops w o v a) : Yields P ops o v a := by
  unfold isMove at h
  split at h
  · rename_i x ho hg
    have hw : Region.wanted o (yielded ops a.tmps) = true := by simp [Region.wanted, hg]
    rcases hy with ⟨_, h2 | ⟨h2, _⟩ | ⟨f, args, h2, _⟩⟩ | ⟨h2, _⟩
    · rw [BigFrame.run_move x ho w] at h2
      obtain rfl : a.eval x = v := by simpa using h2
      exact .inl ⟨hw, fun w => BigFrame.run_move x ho w⟩
    · rw [BigFrame.run_move x ho w] at h2; simp at h2
    · rw [BigFrame.run_move x ho w] at h2; simp at h2
    · rw [hw] at h2; cases h2
  · rename_i x i ho hg
    have hw : Region.wanted o (yielded ops a.tmps) = true := by simp [Region.wanted, hg]
    rcases run_extract (P := P) (ρ := a.eval) x i ho w with ⟨u, hu⟩ | ⟨e, he⟩
    · rcases hy with ⟨_, h2 | ⟨h2, _⟩ | ⟨f, args, h2, _⟩⟩ | ⟨h2, _⟩
      · rw [hu w] at h2
        obtain rfl : u = v := by simpa using h2
        exact .inl ⟨hw, hu⟩
      · rw [hu w] at h2; simp at h2
      · rw [hu w] at h2; simp at h2
      · rw [hw] at h2; cases h2
    · rcases hy with ⟨_, h2 | ⟨h2, _⟩ | ⟨f, args, h2, _⟩⟩ | ⟨h2, _⟩
      · rw [he] at h2; simp at h2
      · rw [he] at h2; simp at h2
      · rw [he] at h2; simp at h2
      · rw [hw] at h2; cases h2
  · cases h
/-- The check, from operation k on: each is ready in its turn. -/
def mixB (md : Region.Mode) (ops : Array Oper) (n : Nat) : Nat → Nat → Array Bool → Bool
  | 0, _, listed => (Region.ready md ops listed).isEmpty
  | f + 1, k, listed => (if k < n then (Region.ready md ops listed).contains k && Region.free md ops listed k && (((ops[k]?).map isMove).getD false || (List.range ops.size).all fun j => decide (j < n) || waits md ops ops.size j k)
      else decide (Region.ready md ops listed = [k])) && mixB md ops n f (k + 1) (listed.setIfInBounds k true)
/-- The tail: in this order, and in no other one. -/
theorem wpM_tail {n : Nat} : ∀ (l : List Oper) (k : Nat) (listed : Array Bool) (a : Act) (w : World), (∀ j, l[j]? = ops[k + j]?) → n ≤ k →
    mixB md ops n l.length k listed = true → wpList P ops Q l a w → wpM P md ops Q n l.length listed a w
  | [], _, _, _, _, _, _, hB, h => ⟨by simpa [mixB] using hB, h⟩
  | o :: l, k, listed, a, w, hl, hk, hB, h => by
    have h0 : ops[k]? = some o := by simpa using (hl 0).symm
    simp only [List.length_cons, mixB, if_neg (Nat.not_lt.2 hk), Bool.and_eq_true, decide_eq_true_eq] at hB
    have ih : ∀ a w, wpList P ops Q l a w → wpM P md ops Q n l.length (listed.setIfInBounds k true) a w := fun a w =>
      wpM_tail l (k + 1) _ a w (fun j => by have := hl (j + 1); simpa [Nat.add_assoc, Nat.add_comm 1 j] using this) (by omega) hB.2
    refine ⟨fun hr => (by rw [hB.1] at hr; cases hr), fun i hi => ?_⟩
    rw [hB.1] at hi
    obtain rfl : i = k := by simpa using hi
    refine ⟨fun hn => absurd hn (by omega), fun _ => ?_⟩
    unfold wpOp
    simp only [h0]
    simp only [wpList] at h
    split
    · rename_i hw
      simp only [hw, if_true] at h
      exact h.imp (Oper.wp_mono (fun a w h => ih a w h)) id
    · rename_i hw
      simp only [hw] at h
      exact ih _ _ h
theorem put_some (hQ : ∀ (d : Tmp) v c a w, Q (.panic c) (a.put (some d) v) w → Q (.panic c) a w) : ∀ d v c a w, Q (.panic c) (a.put d v) w → Q (.panic c) a w
  | some d, v, c, a, w, h => hQ d v c a w h
  | none, _, _, _, _, h => h
theorem wpM_head {n : Nat} (hsel : Region.noSelect ops = true) (hQ : ∀ (d : Tmp) v c a w, Q (.panic c) (a.put (some d) v) w → Q (.panic c) a w) (lt : List Oper) (w : World) : ∀ (l : List Oper) (k : Nat) (listed : Array Bool) (a : Act),
    (∀ j, (l ++ lt)[j]? = ops[k + j]?) → k + l.length = n → Shut md ops listed → mixB md ops n (l.length + lt.length) k listed = true →
    wpStill P ops w (fun a' => wpList P ops Q lt a' w) l a → wpM P md ops Q n (l.length + lt.length) listed a w
  | [], k, listed, a, hl, hk, hs, hB, h => by
    have hk' : n = k := by simpa using hk.symm
    subst hk'
    simp only [List.length_nil, Nat.zero_add] at hB ⊢
    exact wpM_tail lt n listed a w (by simpa using hl) (Nat.le_refl _) hB h
  | o :: l, k, listed, a, hl, hk, hs, hB, h => by
    have h0 : ops[k]? = some o := by simpa using (hl 0).symm
    have hkn : k < n := by simp only [List.length_cons] at hk; omega
    have he : (o :: l).length + lt.length = (l.length + lt.length) + 1 := by simp only [List.length_cons]; omega
    rw [he] at hB ⊢
    simp only [mixB, if_pos hkn, Bool.and_eq_true, h0, Option.map_some, Option.getD_some, Bool.or_eq_true] at hB
    obtain ⟨⟨⟨hr, hf⟩, hm⟩, hB'⟩ := hB
    have hr' : k ∈ Region.ready md ops listed := by simpa using hr
    have hst : stOp P ops w k (wpStill P ops w (fun a' => wpList P ops Q lt a' w) l) a := by unfold stOp; simp only [h0]; exact h
    obtain ⟨v, hy, hK⟩ := yieldsAt_of_stOp h0 hst
    refine wpM_first (F := ops.size) h0 (Region.noSelect_spec hsel) (put_some hQ o.dst v) _ listed a w hs (Region.free_spec h0 hf) hr' hkn hy ?_ ?_
    · rcases hm with hm | hm
      · exact .inl (yields_move hm hy)
      · refine .inr fun j h1 h2 => ?_
        have := List.all_eq_true.1 hm j (List.mem_range.2 h2)
        simp only [Bool.or_eq_true, decide_eq_true_eq] at this
        exact this.resolve_left (by omega)
    · exact wpM_head hsel hQ lt w l (k + 1) _ _ (fun j => by have := hl (j + 1); simpa [Nat.add_assoc, Nat.add_comm 1 j] using this) (by simp only [List.length_cons] at hk; omega) (shut_set hs hr') hB' hK
theorem wp_region_mix {id : Nat} {a : Act} {w : World} {l : List Oper} (n : Nat) (hm : P.follows .mixedOrders = true) (hB : (Region.noSelect l.toArray && decide (n ≤ l.length) && mixB .any l.toArray n l.length 0 (Array.replicate l.length false)) = true)
    (hQ : ∀ (d : Tmp) v c a w, Q (.panic c) (a.put (some d) v) w → Q (.panic c) a w)
    (h : wpStill P l.toArray { w with drawn := w.drawn + 1 } (fun a' => wpList P l.toArray Q (l.drop n) a' { w with drawn := w.drawn + 1 }) (l.take n) a) : (Code.region id l.toArray true).wp P Q a w := by
  simp only [Bool.and_eq_true, decide_eq_true_eq] at hB
  obtain ⟨⟨hsel, hn⟩, hB⟩ := hB
  have htl : (l.take n).length = n := by simp; omega
  have e : (l.take n).length + (l.drop n).length = l.length := by simp; omega
  refine wp_region_any hm (wpM_any (n := n) _ _ _ _ ?_)
  have hs0 : Shut .any l.toArray (Array.replicate l.length false) := fun j oj _ hl => by rw [getD_replicate_false] at hl; cases hl
  have := wpM_head (md := .any) (n := n) hsel hQ (l.drop n) { w with drawn := w.drawn + 1 } (l.take n) 0 (Array.replicate l.length false) a (by simp) (by omega) hs0 (by rw [e]; exact hB) h
  rw [e] at this
  simpa using this
end
end Go.Proofs.YtpfkiohknpeifaaGreat
