/- Regions that draw their order, with several calls that make memory, and blocks that are made at any time. -/
import Derived.Test.YtpfkiohknpeifaaGreatFirm
namespace Go.Proofs.YtpfkiohknpeifaaGreat
open Go Go.RowKit
section
variable {P : Program} {ops : Array Oper} {Q : Exit → Act → World → Prop} {md : Region.Mode} {H M : Nat → Bool} {B : Nat}
/-- Any order; H: what is heavy (calls that make memory, writes), M: what leaves all below B as it was. -/
def wpX (P : Program) (md : Region.Mode) (ops : Array Oper) (Q : Exit → Act → World → Prop) (H M : Nat → Bool) (B : Nat) : Nat → Array Bool → Act → World → Prop
  | 0, listed, a, w => Region.ready md ops listed = [] ∧ Q .normal a w
  | f + 1, listed, a, w => (Region.ready md ops listed = [] → Q .normal a w) ∧ ∀ i ∈ Region.ready md ops listed,
      (H i = false → stOp P ops w i (fun a' => wpX P md ops Q H M B f (listed.setIfInBounds i true) a' w) a) ∧
      (H i = true → wpOp P ops Q i (fun a' w' => (M i = true → Below B w w') ∧ wpX P md ops Q H M B f (listed.setIfInBounds i true) a' w') a w)
theorem wpX_any : ∀ (f : Nat) (listed : Array Bool) (a : Act) (w : World), wpX P md ops Q H M B f listed a w → wpAny P md ops Q f listed a w
  | 0, _, _, _, h => h
  | f + 1, listed, a, w, h => ⟨h.1, fun i hi => by
      cases hH : H i with
      | false => exact wpOp_of_stOp (fun a' h' => wpX_any f _ a' w h') ((h.2 i hi).1 hH)
      | true => exact wpOp_mono (fun a' w' h' => wpX_any f _ a' w' h'.2) ((h.2 i hi).2 hH)⟩
theorem wpX_first {i F : Nat} {oi : Oper} {v : Value} (hi : ops[i]? = some oi) (hsel : ∀ (j : Nat) (o : Oper) cs b, ops[j]? = some o → o.op ≠ .select cs b)
    (hQ : ∀ c a w, Q (.panic c) (a.put oi.dst v) w → Q (.panic c) a w) (hin : H i = false) :
    ∀ (f : Nat) (listed : Array Bool) (a : Act) (w : World), Shut md ops listed →
      (∀ j oj, ops[j]? = some oj → j ≠ i → listed.getD j true = false → (∀ e ∈ oj.after, Region.binds md e = true → e.on ≠ i) → oi.apart ops oj = true) →
      i ∈ Region.ready md ops listed → (Yields P ops oi v a ∨ ((∀ w', Below B w w' → YieldsAt P ops w' oi v a) ∧ ∀ j, j < ops.size → H j = true → M j = false → waits md ops F j i = true)) →
      wpX P md ops Q H M B f (listed.setIfInBounds i true) (a.put oi.dst v) w → wpX P md ops Q H M B (f + 1) listed a w := by
  intro f
  induction f with
  | zero =>
    intro listed a w hc _ hr hw H'
    have hy : YieldsAt P ops w oi v a := hw.elim yieldsAt_of fun h => h.1 w (Below.refl B w)
    refine ⟨fun h => (by rw [h] at hr; cases hr), fun j hj => ?_⟩
    by_cases hji : j = i
    · subst hji
      exact ⟨fun _ => hy.stOp hi H', fun h => (by rw [hin] at h; cases h)⟩
    · have := ready_mono hj hji
      rw [H'.1] at this; cases this
  | succ f ih =>
    intro listed a w hc hfree hr hw H'
    have hy : YieldsAt P ops w oi v a := hw.elim yieldsAt_of fun h => h.1 w (Below.refl B w)
    refine ⟨fun h => (by rw [h] at hr; cases hr), fun j hj => ?_⟩
    by_cases hji : j = i
    · subst hji
      exact ⟨fun _ => hy.stOp hi H', fun h => (by rw [hin] at h; cases h)⟩
    have hun : listed.getD i false = false := by
      have := (mem_ready.1 hr).1
      cases h : listed.getD i false with
      | false => rfl
      | true =>
        have hlt : i < listed.size := by
          rcases Nat.lt_or_ge i listed.size with h' | h'
          · exact h'
          · simp [Array.getElem?_eq_none h'] at h
        simp [hlt] at this h
        rw [h] at this; cases this
    obtain ⟨hjun, oj, hoj, hall⟩ := mem_ready.1 hj
    have hno : ∀ e ∈ oj.after, Region.binds md e = true → e.on ≠ i := fun e he hb heq => by
      have h1 := hall e he hb
      rw [heq, hun] at h1; cases h1
    have hap := hfree j oj hoj hji hjun hno
    obtain ⟨a1, a2, a3⟩ := Oper.apart_spec hap
    have hfree' : ∀ k ok, ops[k]? = some ok → k ≠ i → (listed.setIfInBounds j true).getD k true = false → (∀ e ∈ ok.after, Region.binds md e = true → e.on ≠ i) → oi.apart ops ok = true := fun k ok hk hki hkun hkno => by
      refine hfree k ok hk hki ?_ hkno
      by_cases hjk : j = k
      · subst hjk; exact hjun
      · rw [getD_set_ne true hjk] at hkun; exact hkun
    have hr' := ready_mono hr (Ne.symm hji)
    have H2 := H'.2 j (ready_mono hj hji)
    have hcm : (listed.setIfInBounds i true).setIfInBounds j true = (listed.setIfInBounds j true).setIfInBounds i true := Array.setIfInBounds_comm _ _ (Ne.symm hji)
    have hsi := fun cs b => hsel i oi cs b hi
    have hsj := fun cs b => hsel j oj cs b hoj
    have keep : ∀ (w' : World) (u : Value) (d), YieldsAt P ops w' oi v a → YieldsAt P ops w' oi v (Act.put { a with defers := d } oj.dst u) := fun w' u d h =>
      YieldsAt.of_same (YieldsAt.of_same h (a' := { a with defers := d }) rfl rfl) (execOp_put oi hsi _ oj.dst u a3) (wanted_put oi _ oj.dst u a3)
    refine ⟨fun hjn => ?_, fun hjn => ?_⟩
    · obtain ⟨u, hyu, hK⟩ := yieldsAt_of_stOp hoj (H2.1 hjn)
      have hyu' : YieldsAt P ops w oj u a := hyu.of_same (execOp_put oj hsj a oi.dst v a1).symm (wanted_put oj a oi.dst v a1).symm
      refine hyu'.stOp hoj (ih _ _ w (shut_set hc hj) hfree' hr' ?_ ?_)
      · exact hw.imp (fun h => h.of_same (execOp_put oi hsi a oj.dst u a3) (wanted_put oi a oj.dst u a3)) fun h => ⟨fun w' hb => keep w' u a.defers (h.1 w' hb), h.2⟩
      · rw [← hcm, ← Act.put_comm a v u a2]; exact hK
    · rcases hw with hw | ⟨hw, hwt⟩
      · have h2 := wpOp_put hoj hap hsi hsj hQ hw (H2.2 hjn)
        refine wpOp_mono (fun a' w' h3 => ⟨h3.2.1, ih _ a' w' (shut_set hc hj) hfree' hr' (.inl h3.1) ?_⟩) h2
        rw [← hcm]; exact h3.2.2
      · have hlt : j < ops.size := (Array.getElem?_eq_some_iff.1 hoj).1
        cases hM : M j with
        | false => exact absurd hj (waits_spec hc hun F j (hwt j hlt hjn hM)).2
        | true =>
          have h2 := wpOp_set hoj hap hsj hQ (H2.2 hjn)
          refine wpOp_mono (fun a' w' h3 => ⟨fun _ => h3.2.1 hM, ih _ a' w' (shut_set hc hj) hfree' hr' (.inr ⟨fun w'' hb => ?_, hwt⟩) ?_⟩) h2
          · obtain ⟨⟨u, d, rfl⟩, hb', _⟩ := h3
            exact keep w'' u d (hw w'' ((hb' hM).trans hb))
          · rw [← hcm]; exact h3.2.2
def shutB (md : Region.Mode) (ops : Array Oper) (listed : Array Bool) : Bool :=
  (List.range ops.size).all fun j => !listed.getD j false || ((ops[j]?).map fun o => o.after.all fun e => !Region.binds md e || listed.getD e.on false).getD true
theorem shutB_spec {listed : Array Bool} (h : shutB md ops listed = true) : Shut md ops listed := by
  intro j oj hj hl e he hb
  have h1 := List.all_eq_true.1 h j (List.mem_range.2 (Array.getElem?_eq_some_iff.1 hj).1)
  simp only [hl, Bool.not_true, Bool.false_or, hj, Option.map_some, Option.getD_some] at h1
  have h2 := Array.all_eq_true_iff_forall_mem.1 h1 e he
  simpa [hb] using h2
/-- The checks for taking operation i now. -/
def takeB (md : Region.Mode) (ops : Array Oper) (H M : Nat → Bool) (listed : Array Bool) (i : Nat) : Bool :=
  shutB md ops listed && (Region.ready md ops listed).contains i && Region.free md ops listed i && !H i && Region.noSelect ops &&
  (((ops[i]?).map isMove).getD false || (List.range ops.size).all fun j => !H j || M j || waits md ops ops.size j i)
theorem wpX_take {i : Nat} {o : Oper} {v : Value} {f : Nat} {listed : Array Bool} {a a' : Act} {w : World} (hi : ops[i]? = some o) (hg : o.guard = none) (hB : takeB md ops H M listed i = true)
    (hQ : ∀ c a w, Q (.panic c) (a.put o.dst v) w → Q (.panic c) a w) (h1 : ∀ w', Below B w w' → yv P o a w' v) (ha : a.put o.dst v = a')
    (h2 : wpX P md ops Q H M B f (listed.setIfInBounds i true) a' w) : wpX P md ops Q H M B (f + 1) listed a w := by
  simp only [takeB, Bool.and_eq_true, Bool.not_eq_true', Bool.or_eq_true, hi, Option.map_some, Option.getD_some] at hB
  obtain ⟨⟨⟨⟨⟨b1, b2⟩, b3⟩, b4⟩, b5⟩, b6⟩ := hB
  have hst : ∀ w', Below B w w' → YieldsAt P ops w' o v a := fun w' hb => yieldsAt_yv (by simp [Region.wanted, hg]) (h1 w' hb)
  refine wpX_first (F := ops.size) hi (Region.noSelect_spec b5) hQ b4 f listed a w (shutB_spec b1) (Region.free_spec hi b3) (by simpa using b2) ?_ (ha ▸ h2)
  rcases b6 with b6 | b6
  · exact .inl (yields_move b6 (hst w (Below.refl B w)))
  · refine .inr ⟨hst, fun j h1 h2 h3 => ?_⟩
    have := List.all_eq_true.1 b6 j (List.mem_range.2 h1)
    simpa [h2, h3] using this
theorem wpX_mild {i : Nat} {o : Oper} (hi : ops[i]? = some o) (hg : o.guard = none) {f : Nat} {listed : Array Bool} {a : Act} {w : World} (h : mild P B o a w (fun a' w' => wpX P md ops Q H M B f listed a' w')) :
    wpOp P ops Q i (fun a' w' => (M i = true → Below B w w') ∧ wpX P md ops Q H M B f listed a' w') a w := by
  unfold wpOp
  simp only [hi]
  rw [if_pos (by simp [Region.wanted, hg])]
  exact .inl (Oper.wp_mono (fun a' w' h' => ⟨fun _ => h'.1, h'.2⟩) (mild_wp h))
theorem wpX_one {i : Nat} {o : Oper} {f : Nat} {listed : Array Bool} {a : Act} {w : World} (hi : ops[i]? = some o) (hg : o.guard = none) (hr : (decide (Region.ready md ops listed = [i]) && H i) = true)
    (h : mild P B o a w (fun a' w' => wpX P md ops Q H M B f (listed.setIfInBounds i true) a' w')) : wpX P md ops Q H M B (f + 1) listed a w := by
  simp only [Bool.and_eq_true, decide_eq_true_eq] at hr
  refine ⟨fun h0 => (by rw [hr.1] at h0; cases h0), fun j hj => ?_⟩
  rw [hr.1] at hj
  obtain rfl : j = i := by simpa using hj
  exact ⟨fun h0 => (by rw [hr.2] at h0; cases h0), fun _ => wpX_mild hi hg h⟩
theorem wpX_two {i k : Nat} {o u : Oper} {f : Nat} {listed : Array Bool} {a : Act} {w : World} (hi : ops[i]? = some o) (hg : o.guard = none) (hk : ops[k]? = some u) (hu : u.guard = none) (hr : (decide (Region.ready md ops listed = [i, k]) && H i && H k) = true)
    (h : mild P B o a w (fun a' w' => wpX P md ops Q H M B f (listed.setIfInBounds i true) a' w'))
    (h' : mild P B u a w (fun a' w' => wpX P md ops Q H M B f (listed.setIfInBounds k true) a' w')) : wpX P md ops Q H M B (f + 1) listed a w := by
  simp only [Bool.and_eq_true, decide_eq_true_eq] at hr
  refine ⟨fun h0 => (by rw [hr.1.1] at h0; cases h0), fun j hj => ?_⟩
  rw [hr.1.1] at hj
  rcases (by simpa using hj : j = i ∨ j = k) with rfl | rfl
  · exact ⟨fun h0 => (by rw [hr.1.2] at h0; cases h0), fun _ => wpX_mild hi hg h⟩
  · exact ⟨fun h0 => (by rw [hr.2] at h0; cases h0), fun _ => wpX_mild hk hu h'⟩
/-- What is left comes in this order, and in no other one. -/
def seqX (md : Region.Mode) (ops : Array Oper) (H M : Nat → Bool) : Nat → Nat → Array Bool → Bool
  | 0, _, listed => (Region.ready md ops listed).isEmpty
  | f + 1, k, listed => decide (Region.ready md ops listed = [k]) && H k && !M k && seqX md ops H M f (k + 1) (listed.setIfInBounds k true)
theorem wpX_tail : ∀ (l : List Oper) (k : Nat) (listed : Array Bool) (a : Act) (w : World), (∀ j, l[j]? = ops[k + j]?) →
    seqX md ops H M l.length k listed = true → wpList P ops Q l a w → wpX P md ops Q H M B l.length listed a w
  | [], _, _, _, _, _, hB, h => ⟨by simpa [seqX] using hB, h⟩
  | o :: l, k, listed, a, w, hl, hB, h => by
    have h0 : ops[k]? = some o := by simpa using (hl 0).symm
    simp only [List.length_cons, seqX, Bool.and_eq_true, decide_eq_true_eq, Bool.not_eq_true'] at hB
    obtain ⟨⟨⟨b1, b2⟩, b3⟩, b4⟩ := hB
    have ih : ∀ a w, wpList P ops Q l a w → wpX P md ops Q H M B l.length (listed.setIfInBounds k true) a w := fun a w =>
      wpX_tail l (k + 1) _ a w (fun j => by have := hl (j + 1); simpa [Nat.add_assoc, Nat.add_comm 1 j] using this) b4
    refine ⟨fun hr => (by rw [b1] at hr; cases hr), fun i hi => ?_⟩
    rw [b1] at hi
    obtain rfl : i = k := by simpa using hi
    refine ⟨fun hn => (by rw [b2] at hn; cases hn), fun _ => ?_⟩
    unfold wpOp
    simp only [h0]
    simp only [wpList] at h
    split
    · rename_i hw
      simp only [hw, if_true] at h
      exact h.imp (Oper.wp_mono (fun a w h => ⟨fun h => (by rw [b3] at h; cases h), ih a w h⟩)) id
    · rename_i hw
      simp only [hw] at h
      exact ⟨fun h => (by rw [b3] at h; cases h), ih _ _ h⟩
theorem wpX_rest {l : List Oper} {k : Nat} {listed : Array Bool} {a : Act} {w : World} (hB : seqX md l.toArray H M (l.length - k) k listed = true) (h : wpList P l.toArray Q (l.drop k) a w) : wpX P md l.toArray Q H M B (l.length - k) listed a w := by
  have := wpX_tail (B := B) (ops := l.toArray) (l.drop k) k listed a w (fun j => by simp [List.getElem?_drop]) (by simpa using hB) h
  simpa using this
theorem wp_region_multi {id : Nat} {a : Act} {w : World} {l : List Oper} (H M : Nat → Bool) (B : Nat) (hm : P.follows .mixedOrders = true)
    (h : wpX P .any l.toArray Q H M B l.length (Array.replicate l.length false) a { w with drawn := w.drawn + 1 }) : (Code.region id l.toArray true).wp P Q a w :=
  wp_region_any hm (wpX_any _ _ _ _ (by simpa using h))
end
end Go.Proofs.YtpfkiohknpeifaaGreat
