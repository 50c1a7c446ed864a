/- Regions that draw their order: operations that read what stays as it is, one call that makes memory, and what writes behind all of them. -/
import Derived.Test.YtpfkiohknpeifaaGreatReg
import Derived.Test.YtpfkiohknpeifaaGreatBox
namespace Go.Proofs.YtpfkiohknpeifaaGreat
open Go Go.RowKit
section
variable {P : Program} {ops : Array Oper} {Q : Exit → Act → World → Prop} {md : Region.Mode}
def yvUpon (P : Program) (w : World) (v : Value) : Result Next → Prop
  | .ok (.value u) w' => w' = w ∧ u = v
  | .ok .skip w' => w' = w ∧ undef = v
  | .ok (.enter f args) w' => w' = w ∧ Calls P f args w (fun e w'' => e = .returned v ∧ w'' = w)
  | _ => False
/-- An operation has the value v, and changes nothing. -/
def yv (P : Program) (o : Oper) (a : Act) (w : World) (v : Value) : Prop := yvUpon P w v ((execOp a.eval o).run P w)
theorem yieldsAt_yv {w : World} {o : Oper} {v : Value} {a : Act} (hw : Region.wanted o (yielded ops a.tmps) = true) (h : yv P o a w v) : YieldsAt P ops w o v a := by
  unfold yv at h
  refine .inl ⟨hw, ?_⟩
  generalize (execOp a.eval o).run P w = r at h ⊢
  cases r with
  | ok n w' =>
    cases n <;> simp only [yvUpon] at h
    case value u => obtain ⟨rfl, rfl⟩ := h; exact .inl rfl
    case skip => obtain ⟨rfl, rfl⟩ := h; exact .inr (.inl ⟨rfl, rfl⟩)
    case enter f args => obtain ⟨rfl, h2⟩ := h; exact .inr (.inr ⟨f, args, rfl, h2⟩)
  | halt x w' => simp only [yvUpon] at h
/-- What an operation leaves: the slots as they were, but for its own. -/
theorem wpOp_eff {i : Nat} {o : Oper} (ho : ops[i]? = some o) {K : Act → World → Prop} {a : Act} {w : World} (h : wpOp P ops Q i K a w) :
    wpOp P ops Q i (fun a' w' => (∃ u d, a' = Act.put { a with defers := d } o.dst u) ∧ K a' w') a w := by
  unfold wpOp at h ⊢
  simp only [ho] at h ⊢
  split
  · rename_i hw
    simp only [hw, if_true] at h
    refine h.imp (fun h => ?_) id
    unfold Oper.wp at h ⊢
    generalize (execOp a.eval o).run P w = r at h ⊢
    cases r with
    | ok n w' =>
      cases n <;> simp only [Oper.upon] at h ⊢
      case value u => exact ⟨⟨u, a.defers, rfl⟩, h⟩
      case skip => exact ⟨⟨undef, a.defers, rfl⟩, h⟩
      case defer d => exact ⟨⟨undef, d :: a.defers, rfl⟩, h⟩
      case enter f args =>
        refine Calls.mono h fun e w'' he => ?_
        cases e with
        | returned u => exact ⟨⟨u, a.defers, rfl⟩, he⟩
        | panicked c => exact he
        | outgrown => exact he
      case row row args => exact Rows.mono h fun u w'' he => ⟨⟨u, a.defers, rfl⟩, he⟩
    | halt x w' => cases x <;> simp only [Oper.upon] at h ⊢ <;> exact h
  · rename_i hw
    simp only [hw] at h
    exact ⟨⟨undef, a.defers, rfl⟩, h⟩
theorem wpOp_set {j : Nat} {oi oj : Oper} {v : Value} (hj : ops[j]? = some oj) (hap : oi.apart ops oj = true) (hsj : ∀ cs b, oj.op ≠ .select cs b)
    (hQ : ∀ c a w, Q (.panic c) (a.put oi.dst v) w → Q (.panic c) a w) {K : Act → World → Prop} {a : Act} {w : World} (h : wpOp P ops Q j K (a.put oi.dst v) w) :
    wpOp P ops Q j (fun a' w' => (∃ u d, a' = Act.put { a with defers := d } oj.dst u) ∧ K (a'.put oi.dst v) w') a w := by
  have hap' : ({ oi with op := .move (.const v), guard := none } : Oper).apart ops oj = true := by
    unfold Oper.apart at hap ⊢
    simp only [Bool.and_eq_true] at hap ⊢
    exact ⟨hap.1, by cases oj.dst <;> simp [Oper.looksAt, Op.operands]⟩
  have hy : Yields P ops { oi with op := .move (.const v), guard := none } v a := .inl ⟨by simp [Region.wanted], fun w => BigFrame.run_move (.const v) rfl w⟩
  have := wpOp_put (oi := { oi with op := .move (.const v), guard := none }) hj hap' (fun _ _ h => by cases h) hsj hQ hy h
  exact wpOp_mono (fun a' w' h => ⟨h.1, h.2.2⟩) (wpOp_eff hj this)
def wpF (P : Program) (md : Region.Mode) (ops : Array Oper) (Q : Exit → Act → World → Prop) (n B : Nat) : Nat → Array Bool → Act → World → Prop
  | 0, listed, a, w => Region.ready md ops listed = [] ∧ Q .normal a w
  | f + 1, listed, a, w => (Region.ready md ops listed = [] → Q .normal a w) ∧ ∀ i ∈ Region.ready md ops listed,
      (i < n → stOp P ops w i (fun a' => wpF P md ops Q n B f (listed.setIfInBounds i true) a' w) a) ∧
      (n ≤ i → wpOp P ops Q i (fun a' w' => (i = n → Below B w w') ∧ wpF P md ops Q n B f (listed.setIfInBounds i true) a' w') a w)
theorem wpF_any {n B : Nat} : ∀ (f : Nat) (listed : Array Bool) (a : Act) (w : World), wpF P md ops Q n B f listed a w → wpAny P md ops Q f listed a w
  | 0, _, _, _, h => h
  | f + 1, listed, a, w, h => ⟨h.1, fun i hi => by
      rcases Nat.lt_or_ge i n with hn | hn
      · exact wpOp_of_stOp (fun a' h' => wpF_any f _ a' w h') ((h.2 i hi).1 hn)
      · exact wpOp_mono (fun a' w' h' => wpF_any f _ a' w' h'.2) ((h.2 i hi).2 hn)⟩
theorem wpF_first {n B i F : Nat} {oi : Oper} {v : Value} (hi : ops[i]? = some oi) (hsel : ∀ (j : Nat) (o : Oper) cs b, ops[j]? = some o → o.op ≠ .select cs b)
    (hQ : ∀ c a w, Q (.panic c) (a.put oi.dst v) w → Q (.panic c) a w) :
    ∀ (f : Nat) (listed : Array Bool) (a : Act) (w : World), Shut md ops listed →
      (∀ j oj, ops[j]? = some oj → j ≠ i → listed.getD j true = false → (∀ e ∈ oj.after, Region.binds md e = true → e.on ≠ i) → oi.apart ops oj = true) →
      i ∈ Region.ready md ops listed → i < n → (Yields P ops oi v a ∨ ((∀ w', Below B w w' → YieldsAt P ops w' oi v a) ∧ ∀ j, n < j → j < ops.size → waits md ops F j i = true)) →
      wpF P md ops Q n B f (listed.setIfInBounds i true) (a.put oi.dst v) w → wpF P md ops Q n B (f + 1) listed a w := by
  intro f
  induction f with
  | zero =>
    intro listed a w hc _ hr hin hw H
    have hy : YieldsAt P ops w oi v a := hw.elim yieldsAt_of fun h => h.1 w (Below.refl B w)
    refine ⟨fun h => (by rw [h] at hr; cases hr), fun j hj => ?_⟩
    by_cases hji : j = i
    · subst hji
      exact ⟨fun _ => hy.stOp hi H, fun h => absurd hin (by omega)⟩
    · have := ready_mono hj hji
      rw [H.1] at this; cases this
  | succ f ih =>
    intro listed a w hc hfree hr hin hw H
    have hy : YieldsAt P ops w oi v a := hw.elim yieldsAt_of fun h => h.1 w (Below.refl B w)
    refine ⟨fun h => (by rw [h] at hr; cases hr), fun j hj => ?_⟩
    by_cases hji : j = i
    · subst hji
      exact ⟨fun _ => hy.stOp hi H, fun h => absurd hin (by omega)⟩
    have hun : listed.getD i false = false := by
      have := (mem_ready.1 hr).1
      cases h : listed.getD i false with
      | false => rfl
      | true =>
        have hlt : i < listed.size := by
          rcases Nat.lt_or_ge i listed.size with h' | h'
          · exact h'
          · simp [Array.getElem?_eq_none h'] at h
        simp [hlt] at this h
        rw [h] at this; cases this
    obtain ⟨hjun, oj, hoj, hall⟩ := mem_ready.1 hj
    have hno : ∀ e ∈ oj.after, Region.binds md e = true → e.on ≠ i := fun e he hb heq => by
      have h1 := hall e he hb
      rw [heq, hun] at h1; cases h1
    have hap := hfree j oj hoj hji hjun hno
    obtain ⟨a1, a2, a3⟩ := Oper.apart_spec hap
    have hfree' : ∀ k ok, ops[k]? = some ok → k ≠ i → (listed.setIfInBounds j true).getD k true = false → (∀ e ∈ ok.after, Region.binds md e = true → e.on ≠ i) → oi.apart ops ok = true := fun k ok hk hki hkun hkno => by
      refine hfree k ok hk hki ?_ hkno
      by_cases hjk : j = k
      · subst hjk; exact hjun
      · rw [getD_set_ne true hjk] at hkun; exact hkun
    have hr' := ready_mono hr (Ne.symm hji)
    have H2 := H.2 j (ready_mono hj hji)
    have hcm : (listed.setIfInBounds i true).setIfInBounds j true = (listed.setIfInBounds j true).setIfInBounds i true := Array.setIfInBounds_comm _ _ (Ne.symm hji)
    have hsi := fun cs b => hsel i oi cs b hi
    have hsj := fun cs b => hsel j oj cs b hoj
    have keep : ∀ (w' : World) (u : Value) (d), YieldsAt P ops w' oi v a → YieldsAt P ops w' oi v (Act.put { a with defers := d } oj.dst u) := fun w' u d h =>
      YieldsAt.of_same (YieldsAt.of_same h (a' := { a with defers := d }) rfl rfl) (execOp_put oi hsi _ oj.dst u a3) (wanted_put oi _ oj.dst u a3)
    refine ⟨fun hjn => ?_, fun hjn => ?_⟩
    · obtain ⟨u, hyu, hK⟩ := yieldsAt_of_stOp hoj (H2.1 hjn)
      have hyu' : YieldsAt P ops w oj u a := hyu.of_same (execOp_put oj hsj a oi.dst v a1).symm (wanted_put oj a oi.dst v a1).symm
      refine hyu'.stOp hoj (ih _ _ w (shut_set hc hj) hfree' hr' hin ?_ ?_)
      · exact hw.imp (fun h => h.of_same (execOp_put oi hsi a oj.dst u a3) (wanted_put oi a oj.dst u a3)) fun h => ⟨fun w' hb => keep w' u a.defers (h.1 w' hb), h.2⟩
      · rw [← hcm, ← Act.put_comm a v u a2]; exact hK
    · rcases hw with hw | ⟨hw, hwt⟩
      · have h2 := wpOp_put hoj hap hsi hsj hQ hw (H2.2 hjn)
        refine wpOp_mono (fun a' w' h3 => ⟨h3.2.1, ih _ a' w' (shut_set hc hj) hfree' hr' hin (.inl h3.1) ?_⟩) h2
        rw [← hcm]; exact h3.2.2
      · have hlt : j < ops.size := (Array.getElem?_eq_some_iff.1 hoj).1
        rcases Nat.lt_or_ge n j with hnj | hnj
        · exact absurd hj (waits_spec hc hun F j (hwt j hnj hlt)).2
        · have hjn' : j = n := by omega
          have h2 := wpOp_set hoj hap hsj hQ (H2.2 hjn)
          refine wpOp_mono (fun a' w' h3 => ⟨h3.2.1, ih _ a' w' (shut_set hc hj) hfree' hr' hin (.inr ⟨fun w'' hb => ?_, hwt⟩) ?_⟩) h2
          · obtain ⟨⟨u, d, rfl⟩, hb', _⟩ := h3
            exact keep w'' u d (hw w'' ((hb' hjn').trans hb))
          · rw [← hcm]; exact h3.2.2
/-- The check, from operation k on. -/
def firmB (md : Region.Mode) (ops : Array Oper) (n : Nat) : Nat → Nat → Array Bool → Bool
  | 0, _, listed => (Region.ready md ops listed).isEmpty
  | f + 1, k, listed => (if k < n then (Region.ready md ops listed).contains k && Region.free md ops listed k && (((ops[k]?).map isMove).getD false || (List.range ops.size).all fun j => decide (j ≤ n) || waits md ops ops.size j k)
      else decide (Region.ready md ops listed = [k])) && firmB md ops n f (k + 1) (listed.setIfInBounds k true)
theorem wpF_tail {n B : Nat} : ∀ (l : List Oper) (k : Nat) (listed : Array Bool) (a : Act) (w : World), (∀ j, l[j]? = ops[k + j]?) → n < k →
    firmB md ops n l.length k listed = true → wpList P ops Q l a w → wpF P md ops Q n B l.length listed a w
  | [], _, _, _, _, _, _, hB, h => ⟨by simpa [firmB] using hB, h⟩
  | o :: l, k, listed, a, w, hl, hk, hB, h => by
    have h0 : ops[k]? = some o := by simpa using (hl 0).symm
    simp only [List.length_cons, firmB, if_neg (show ¬ k < n by omega), Bool.and_eq_true, decide_eq_true_eq] at hB
    have ih : ∀ a w, wpList P ops Q l a w → wpF P md ops Q n B l.length (listed.setIfInBounds k true) a w := fun a w =>
      wpF_tail l (k + 1) _ a w (fun j => by have := hl (j + 1); simpa [Nat.add_assoc, Nat.add_comm 1 j] using this) (by omega) hB.2
    refine ⟨fun hr => (by rw [hB.1] at hr; cases hr), fun i hi => ?_⟩
    rw [hB.1] at hi
    obtain rfl : i = k := by simpa using hi
    refine ⟨fun hn => absurd hn (by omega), fun _ => ?_⟩
    unfold wpOp
    simp only [h0]
    simp only [wpList] at h
    split
    · rename_i hw
      simp only [hw, if_true] at h
      exact h.imp (Oper.wp_mono (fun a w h => ⟨fun h => absurd h (by omega), ih a w h⟩)) id
    · rename_i hw
      simp only [hw] at h
      exact ⟨fun h => absurd h (by omega), ih _ _ h⟩
def mildUpon (P : Program) (B : Nat) (o : Oper) (a : Act) (w : World) (next : Act → World → Prop) : Result Next → Prop
  | .ok (.value v) w' => Below B w w' ∧ next (a.put o.dst v) w'
  | .ok (.enter f args) w' => w' = w ∧ Calls P f args w (fun e w'' => ∃ v, e = .returned v ∧ Below B w w'' ∧ next (a.put o.dst v) w'')
  | _ => False
/-- An operation that makes memory, and changes nothing that was there. -/
def mild (P : Program) (B : Nat) (o : Oper) (a : Act) (w : World) (next : Act → World → Prop) : Prop := mildUpon P B o a w next ((execOp a.eval o).run P w)
theorem mild_wp {B : Nat} {o : Oper} {a : Act} {w : World} {K : Act → World → Prop} (h : mild P B o a w K) : o.wp P a w (fun a' w' => Below B w w' ∧ K a' w') Q := by
  unfold mild at h
  unfold Oper.wp
  generalize (execOp a.eval o).run P w = r at h ⊢
  cases r with
  | ok n w' =>
    cases n <;> simp only [mildUpon] at h
    case value v => simp only [Oper.upon]; exact h
    case enter f args =>
      obtain ⟨rfl, h⟩ := h
      simp only [Oper.upon]
      exact Calls.mono h fun e w'' ⟨v, he, hb, hn⟩ => by subst he; exact ⟨hb, hn⟩
  | halt x w' => simp only [mildUpon] at h
/-- The operations that read, one behind the other. -/
def firmL (P : Program) (ops : Array Oper) (B : Nat) (w : World) (Qt : Act → Prop) : List Oper → Act → Prop
  | [], a => Qt a
  | o :: rest, a => ∃ v, (if Region.wanted o (yielded ops a.tmps) then ∀ w', Below B w w' → yv P o a w' v else v = undef) ∧ firmL P ops B w Qt rest (a.put o.dst v)
theorem firm_cons {B : Nat} {w : World} {Qt : Act → Prop} {o : Oper} {rest : List Oper} {a : Act} {v : Value} (hg : o.guard = none) (h1 : ∀ w', Below B w w' → yv P o a w' v) (h2 : firmL P ops B w Qt rest (a.put o.dst v)) : firmL P ops B w Qt (o :: rest) a :=
  ⟨v, by rw [if_pos (by simp [Region.wanted, hg])]; exact h1, h2⟩
theorem firm_next {B : Nat} {w : World} {Qt : Act → Prop} {o : Oper} {rest : List Oper} {a a' : Act} {v : Value} (hg : o.guard = none) (h1 : ∀ w', Below B w w' → yv P o a w' v) (ha : a.put o.dst v = a') (h2 : firmL P ops B w Qt rest a') : firmL P ops B w Qt (o :: rest) a := firm_cons hg h1 (ha ▸ h2)
theorem firm_nil {B : Nat} {w : World} {Qt : Act → Prop} {a : Act} (h : Qt a) : firmL P ops B w Qt [] a := h
theorem wpF_head {n B : Nat} (hsel : Region.noSelect ops = true) (hQ : ∀ d v c a w, Q (.panic c) (a.put d v) w → Q (.panic c) a w) (om : Oper) (hgm : om.guard = none) (lt : List Oper) (w : World) : ∀ (l : List Oper) (k : Nat) (listed : Array Bool) (a : Act),
    (∀ j, (l ++ om :: lt)[j]? = ops[k + j]?) → k + l.length = n → Shut md ops listed → firmB md ops n (l.length + (lt.length + 1)) k listed = true →
    firmL P ops B w (fun a' => mild P B om a' w (fun a'' w' => wpList P ops Q lt a'' w')) l a → wpF P md ops Q n B (l.length + (lt.length + 1)) listed a w
  | [], k, listed, a, hl, hk, hs, hB, h => by
    have hk' : n = k := by simpa using hk.symm
    subst hk'
    have h0 : ops[n]? = some om := by simpa using (hl 0).symm
    simp only [List.length_nil, Nat.zero_add] at hB ⊢
    simp only [firmB, if_neg (Nat.lt_irrefl n), Bool.and_eq_true, decide_eq_true_eq] at hB
    refine ⟨fun hr => (by rw [hB.1] at hr; cases hr), fun i hi => ?_⟩
    rw [hB.1] at hi
    obtain rfl : i = n := by simpa using hi
    refine ⟨fun hn => absurd hn (by omega), fun _ => ?_⟩
    unfold wpOp
    simp only [h0]
    rw [if_pos (by simp [Region.wanted, hgm])]
    refine .inl (Oper.wp_mono (fun a' w' h' => ⟨fun _ => h'.1, ?_⟩) (mild_wp h))
    exact wpF_tail lt (i + 1) _ a' w' (fun j => by have := hl (j + 1); simpa [Nat.add_assoc, Nat.add_comm 1 j] using this) (by omega) hB.2 h'.2
  | o :: l, k, listed, a, hl, hk, hs, hB, h => by
    have h0 : ops[k]? = some o := by simpa using (hl 0).symm
    have hkn : k < n := by simp only [List.length_cons] at hk; omega
    have he : (o :: l).length + (lt.length + 1) = (l.length + (lt.length + 1)) + 1 := by simp only [List.length_cons]; omega
    rw [he] at hB ⊢
    rw [firmB] at hB
    simp only [if_pos hkn, Bool.and_eq_true, h0, Option.map_some, Option.getD_some, Bool.or_eq_true] at hB
    obtain ⟨⟨⟨hr, hf⟩, hm⟩, hB'⟩ := hB
    have hr' : k ∈ Region.ready md ops listed := by simpa using hr
    obtain ⟨v, hv, hK⟩ := h
    have hst : ∀ w', Below B w w' → YieldsAt P ops w' o v a := fun w' hb => by
      by_cases hw : Region.wanted o (yielded ops a.tmps) = true
      · rw [if_pos hw] at hv; exact yieldsAt_yv hw (hv w' hb)
      · rw [if_neg hw] at hv; exact .inr ⟨by simpa using hw, hv⟩
    refine wpF_first (F := ops.size) h0 (Region.noSelect_spec hsel) (hQ o.dst v) _ listed a w hs (Region.free_spec h0 hf) hr' hkn ?_ ?_
    · rcases hm with hm | hm
      · exact .inl (yields_move hm (hst w (Below.refl B w)))
      · refine .inr ⟨hst, fun j h1 h2 => ?_⟩
        have := List.all_eq_true.1 hm j (List.mem_range.2 h2)
        simp only [Bool.or_eq_true, decide_eq_true_eq] at this
        exact this.resolve_left (by omega)
    · exact wpF_head hsel hQ om hgm lt w l (k + 1) _ _ (fun j => by have := hl (j + 1); simpa [Nat.add_assoc, Nat.add_comm 1 j] using this) (by simp only [List.length_cons] at hk; omega) (shut_set hs hr') hB' hK
theorem wp_region_firm {id : Nat} {a : Act} {w : World} {l : List Oper} (n : Nat) (om : Oper) (hom : l[n]? = some om) (hgm : om.guard = none) (B : Nat) (hm : P.follows .mixedOrders = true) (hB : (Region.noSelect l.toArray && firmB .any l.toArray n l.length 0 (Array.replicate l.length false)) = true)
    (hQ : ∀ (d : Tmp) v c a w, Q (.panic c) (a.put (some d) v) w → Q (.panic c) a w)
    (h : firmL P l.toArray B { w with drawn := w.drawn + 1 } (fun a' => mild P B om a' { w with drawn := w.drawn + 1 } (fun a'' w' => wpList P l.toArray Q (l.drop (n + 1)) a'' w')) (l.take n) a) : (Code.region id l.toArray true).wp P Q a w := by
  simp only [Bool.and_eq_true] at hB
  obtain ⟨hsel, hB⟩ := hB
  have hn : n < l.length := (List.getElem?_eq_some_iff.1 hom).1
  have htl : (l.take n).length = n := by simp; omega
  have e : (l.take n).length + ((l.drop (n + 1)).length + 1) = l.length := by simp; omega
  have el : l.take n ++ om :: l.drop (n + 1) = l := by
    have h1 : l[n] = om := by have := (List.getElem?_eq_some_iff.1 hom).2; exact this
    rw [← h1, ← List.drop_eq_getElem_cons hn, List.take_append_drop]
  refine wp_region_any hm (wpF_any (n := n) (B := B) _ _ _ _ ?_)
  have hs0 : Shut .any l.toArray (Array.replicate l.length false) := fun j oj _ hl => by rw [getD_replicate_false] at hl; cases hl
  have := wpF_head (md := .any) (n := n) (B := B) hsel (put_some hQ) om hgm (l.drop (n + 1)) { w with drawn := w.drawn + 1 } (l.take n) 0 (Array.replicate l.length false) a (by rw [el]; simp) (by omega) hs0 (by rw [e]; exact hB) h
  rw [e] at this
  simpa using this
end
end Go.Proofs.YtpfkiohknpeifaaGreat
