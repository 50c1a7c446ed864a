/- Plain facts: what the dead time costs. -/
import Derived.Test.YtgnojdiecgfeaaaPlainI
import Derived.Test.YtgnojdiecgfeaaaTimes
namespace Go.Proofs.Ytgnojdiecgfeaaa

theorem legS_cases (dead : Int) (x : Lg) (v : Int) :
    (x.s ≠ 0 ∧ x.s ≠ v ∧ (legS dead x v).s = 0 ∧ (legS dead x v).j = 1) ∨ (x.s = 0 ∧ v ≠ 0 ∧ dead ≤ x.j ∧ (legS dead x v).s = v ∧ (legS dead x v).j = min (x.j + 1) 4096) ∨
    ((x.s = 0 ∨ x.s = v) ∧ (x.s ≠ 0 ∨ v = 0 ∨ x.j < dead) ∧ (legS dead x v).s = x.s ∧ (legS dead x v).j = min (x.j + 1) 4096) := by
  by_cases h : isOff x v
  · have e : legS dead x v = ⟨0, 1⟩ := if_pos h
    exact .inl ⟨h.1, h.2, by rw [e], by rw [e]⟩
  · by_cases h2 : isOn dead x v
    · have e : legS dead x v = ⟨v, min (x.j + 1) 4096⟩ := by unfold legS; rw [if_neg h, if_pos h2]
      exact .inr (.inl ⟨h2.1, h2.2.1, h2.2.2, by rw [e], by rw [e]⟩)
    · have e : legS dead x v = ⟨x.s, min (x.j + 1) 4096⟩ := by unfold legS; rw [if_neg h, if_neg h2]
      refine .inr (.inr ⟨?_, ?_, by rw [e], by rw [e]⟩)
      · unfold isOff at h; omega
      · unfold isOn at h2; omega
/-- The way of a leg through a period with a pulse from a to b, from the lower switch on. -/
def tra (a b dead t : Int) (y : Lg) : Prop :=
  (t ≤ a ∧ y.s = 1) ∨ (a < t ∧ t ≤ a + dead ∧ y.s = 0 ∧ y.j = t - a) ∨ (a + dead < t ∧ t ≤ b ∧ y.s = 2) ∨ (b < t ∧ t ≤ b + dead ∧ y.s = 0 ∧ y.j = t - b) ∨ (b + dead < t ∧ y.s = 1)
theorem tra_step {a b dead t trip : Int} {y : Lg} (hd : 1 ≤ dead) (hd2 : dead ≤ 1024) (hab : a + dead + 1 ≤ b) (ht : t < trip) (h : tra a b dead t y) : tra a b dead (t + 1) (legS dead y (wantF a b t trip)) := by
  have hw : wantF a b t trip = if a ≤ t ∧ t < b then 2 else 1 := by unfold wantF; rw [if_neg (by omega)]
  rw [hw]
  unfold tra at h
  by_cases h1 : a ≤ t ∧ t < b
  · rw [if_pos h1]
    rcases legS_cases dead y 2 with ⟨q1, q2, q3, q4⟩ | ⟨q1, q2, q3, q4, q5⟩ | ⟨q1, q2, q3, q4⟩ <;> unfold tra <;> omega
  · rw [if_neg h1]
    rcases legS_cases dead y 1 with ⟨q1, q2, q3, q4⟩ | ⟨q1, q2, q3, q4, q5⟩ | ⟨q1, q2, q3, q4⟩ <;> unfold tra <;> omega
theorem tra_at {r : Rq} {m n : Nat} (hd : 1 ≤ r.dead) (hd2 : r.dead ≤ 1024) (ha : 1 ≤ r.f m) (hab : r.f m + r.dead + 1 ≤ r.o m) (hn : (n : Int) ≤ r.trip) (hs : (r.x m).s = 1) : ∀ t : Nat, t ≤ n → tra (r.f m) (r.o m) r.dead t (r.at_ m t) := by
  intro t
  induction t with
  | zero => intro _; exact .inl ⟨by show (0 : Int) ≤ _; omega, hs⟩
  | succ t ih =>
    intro ht
    have := tra_step hd hd2 hab (show (t : Int) < r.trip by omega) (ih (by omega))
    rw [Rq.at_succ]
    simpa [Rq.want] using this
theorem cnt_by (p : Int → Bool) (g : Int → Int) (n : Nat) (h : ∀ x : Nat, x < n → (if p x = true then (1 : Int) else 0) = g ((x : Int) + 1) - g x) : cnt p 0 n = g n - g 0 := by
  induction n with
  | zero => simp [cnt]
  | succ n ih =>
    have h1 := ih (fun x hx => h x (by omega))
    have h2 := h n (by omega)
    simp only [cnt, h1, Int.zero_add]
    rw [h2]
    have : ((n + 1 : Nat) : Int) = (n : Int) + 1 := by omega
    rw [this]
    omega
theorem sel_onL (x : Nat → Lg) {m : Nat} (hm : m < 3) : selB m 0 (onL x) = ((x m).s == 2) ∧ selB m 1 (onL x) = ((x m).s == 1) ∧ selB m 2 (onL x) = (!((x m).s == 2) && !((x m).s == 1)) := by
  match m, hm with
  | 0, _ => exact ⟨rfl, rfl, rfl⟩
  | 1, _ => exact ⟨rfl, rfl, rfl⟩
  | 2, _ => exact ⟨rfl, rfl, rfl⟩
theorem cond_num {b : Bool} {P : Prop} [Decidable P] (h : b = true ↔ P) : (if b = true then (1 : Int) else 0) = if P then 1 else 0 := by
  by_cases hp : P
  · rw [if_pos (h.2 hp), if_pos hp]
  · rw [if_neg (fun hb => hp (h.1 hb)), if_neg hp]
theorem losses {r : Rq} {m : Nat} (hm : m < 3) (h : ∀ l, l < 3 → Lok (r.x l)) (h1 : 64 ≤ r.per) (h2 : r.per ≤ 4096) (hd : 1 ≤ r.dead) (hd2 : r.dead ≤ 1024) (ha : 1 ≤ r.f m) (hab : r.f m + r.dead + 1 ≤ r.o m) (hb : r.o m + r.dead + 1 ≤ r.per) (ht : r.trip = r.per) (hs : (r.x m).s = 1) :
    tms r.per (onL r.x) (r.es r.per.toNat) m 0 = r.o m - r.f m - r.dead ∧ tms r.per (onL r.x) (r.es r.per.toNat) m 1 = r.per - (r.o m - r.f m) - r.dead ∧ tms r.per (onL r.x) (r.es r.per.toNat) m 2 = 2 * r.dead ∧ (r.at_ m r.per.toNat).s = 1 := by
  have htr := tra_at (r := r) (m := m) (n := r.per.toNat) hd hd2 ha hab (by omega) hs
  have hon : ∀ x : Nat, x < r.per.toNat → onAt (onL r.x) (r.es r.per.toNat) (x : Int) = onL (fun l => r.at_ l (x + 1)) := fun x hx => onAt_es h hx
  have hnn : ((r.per.toNat : Nat) : Int) = r.per := by omega
  unfold tms
  rw [if_pos (es_chk h1 h2), if_pos (es_chk h1 h2), if_pos (es_chk h1 h2)]
  refine ⟨?_, ?_, ?_, ?_⟩
  · unfold tmR
    rw [cnt_by _ (fun x => max 0 (min x (r.o m) - (r.f m + r.dead)))]
    · simp only [hnn]; omega
    · intro x hx
      rw [hon x hx, (sel_onL _ hm).1]
      have h3 := htr (x + 1) (by omega)
      rw [cond_num (P := r.f m + r.dead ≤ (x : Int) ∧ (x : Int) < r.o m)]
      · split <;> omega
      · simp only [beq_iff_eq]
        unfold tra at h3
        omega
  · unfold tmR
    rw [cnt_by _ (fun x => min x (r.f m) + max 0 (x - (r.o m + r.dead)))]
    · simp only [hnn]; omega
    · intro x hx
      rw [hon x hx, (sel_onL _ hm).2.1]
      have h3 := htr (x + 1) (by omega)
      rw [cond_num (P := (x : Int) < r.f m ∨ r.o m + r.dead ≤ (x : Int))]
      · split <;> omega
      · simp only [beq_iff_eq]
        unfold tra at h3
        omega
  · unfold tmR
    rw [cnt_by _ (fun x => max 0 (min x (r.f m + r.dead) - r.f m) + max 0 (min x (r.o m + r.dead) - r.o m))]
    · simp only [hnn]; omega
    · intro x hx
      rw [hon x hx, (sel_onL _ hm).2.2]
      have h3 := htr (x + 1) (by omega)
      rw [cond_num (P := (r.f m ≤ (x : Int) ∧ (x : Int) < r.f m + r.dead) ∨ (r.o m ≤ (x : Int) ∧ (x : Int) < r.o m + r.dead))]
      · split <;> omega
      · simp only [Bool.and_eq_true, Bool.not_eq_true', beq_eq_false_iff_ne]
        unfold tra at h3
        omega
  · have h3 := htr r.per.toNat (Nat.le_refl _)
    unfold tra at h3
    omega

end Go.Proofs.Ytgnojdiecgfeaaa
