/- Plain facts: the states of the switches under the signals of a period. -/
import Derived.Test.YtgnojdiecgfeaaaOwnB
import Derived.Test.YtgnojdiecgfeaaaPlainE
namespace Go.Proofs.Ytgnojdiecgfeaaa

/-- Which switches are on in a state. -/
def onL (x : Nat → Lg) : List Bool := [(x 0).s == 2, (x 0).s == 1, (x 1).s == 2, (x 1).s == 1, (x 2).s == 2, (x 2).s == 1]
theorem onL_length (x : Nat → Lg) : (onL x).length = 6 := rfl
theorem fold_leg {dead t : Int} (x y : Nat → Lg) {m : Nat} (hm : m < 3) {v : Int} (hx : (x m).s = 0 ∨ (x m).s = 1 ∨ (x m).s = 2) (hv : v = 0 ∨ v = 1 ∨ v = 2) (hy : y m = legS dead (x m) v) :
    (legE dead t m (x m) v).foldl step (onL (mixL m y x)) = onL (mixL (m + 1) y x) := by
  obtain ⟨⟨s, j⟩, hxs⟩ : ∃ L, x m = L := ⟨_, rfl⟩
  rw [hxs] at hx hy ⊢
  simp only at hx
  match m, hm with
  | 0, _ =>
    by_cases hj : dead ≤ j
    · rcases hx with rfl | rfl | rfl <;> rcases hv with rfl | rfl | rfl <;> simp [legE, legS, isOff, isOn, numb, hj, onL, mixL, hxs, step] at hy ⊢ <;> simp [hy]
    · rcases hx with rfl | rfl | rfl <;> rcases hv with rfl | rfl | rfl <;> simp [legE, legS, isOff, isOn, numb, hj, onL, mixL, hxs, step] at hy ⊢ <;> simp [hy]
  | 1, _ =>
    by_cases hj : dead ≤ j
    · rcases hx with rfl | rfl | rfl <;> rcases hv with rfl | rfl | rfl <;> simp [legE, legS, isOff, isOn, numb, hj, onL, mixL, hxs, step] at hy ⊢ <;> simp [hy]
    · rcases hx with rfl | rfl | rfl <;> rcases hv with rfl | rfl | rfl <;> simp [legE, legS, isOff, isOn, numb, hj, onL, mixL, hxs, step] at hy ⊢ <;> simp [hy]
  | 2, _ =>
    by_cases hj : dead ≤ j
    · rcases hx with rfl | rfl | rfl <;> rcases hv with rfl | rfl | rfl <;> simp [legE, legS, isOff, isOn, numb, hj, onL, mixL, hxs, step] at hy ⊢ <;> simp [hy]
    · rcases hx with rfl | rfl | rfl <;> rcases hv with rfl | rfl | rfl <;> simp [legE, legS, isOff, isOn, numb, hj, onL, mixL, hxs, step] at hy ⊢ <;> simp [hy]
theorem fold_tick {r : Rq} (h : ∀ l, l < 3 → Lok (r.x l)) (t : Nat) : (r.tick t).foldl step (onL (fun l => r.at_ l t)) = onL (fun l => r.at_ l (t + 1)) := by
  have p := fun (m : Nat) (hm : m < 3) => fold_leg (dead := r.dead) (t := t) (fun l => r.at_ l t) (fun l => r.at_ l (t + 1)) hm (v := r.want m t) ((Rq.lok3 h m hm t).s) (wantF_cases _ _ _ _) rfl
  unfold Rq.tick Rq.e
  rw [List.foldl_append, List.foldl_append]
  have p0 := p 0 (by omega)
  rw [mixL_zero] at p0
  rw [p0, p 1 (by omega), p 2 (by omega)]
  rfl
theorem fold_es {r : Rq} (h : ∀ l, l < 3 → Lok (r.x l)) (t : Nat) : (r.es t).foldl step (onL r.x) = onL (fun l => r.at_ l t) := by
  induction t with
  | zero => rfl
  | succ t ih => rw [Rq.es_succ, List.foldl_append, ih, fold_tick h]
theorem legE_mem {dead t leg : Int} {x : Lg} {v : Int} {e : Ed} (h : e ∈ legE dead t leg x v) : e.t = t ∧ (e.s = 2 * leg ∨ e.s = 2 * leg + 1) ∧ (e.o = true → v ≠ 0) := by
  unfold legE at h
  split at h
  · simp only [List.mem_singleton] at h
    subst h
    refine ⟨rfl, ?_, fun h => by cases h⟩
    show numb _ _ = _ ∨ numb _ _ = _
    unfold numb
    split
    · exact .inl rfl
    · exact .inr rfl
  · split at h
    · rename_i hon
      simp only [List.mem_singleton] at h
      subst h
      refine ⟨rfl, ?_, fun _ => hon.2.1⟩
      show numb _ _ = _ ∨ numb _ _ = _
      unfold numb
      split
      · exact .inl rfl
      · exact .inr rfl
    · simp at h
theorem tick_mem {r : Rq} {t : Nat} {e : Ed} (h : e ∈ r.tick t) : ∃ m, m < 3 ∧ e ∈ r.e m t := by
  unfold Rq.tick at h
  rcases List.mem_append.1 h with h | h
  · rcases List.mem_append.1 h with h | h
    · exact ⟨0, by omega, h⟩
    · exact ⟨1, by omega, h⟩
  · exact ⟨2, by omega, h⟩
theorem es_mem {r : Rq} {n : Nat} {e : Ed} (h : e ∈ r.es n) : ∃ t m, t < n ∧ m < 3 ∧ e ∈ r.e m t := by
  induction n with
  | zero => simp [Rq.es] at h
  | succ n ih =>
    rw [Rq.es_succ] at h
    rcases List.mem_append.1 h with h | h
    · obtain ⟨t, m, h1, h2, h3⟩ := ih h
      exact ⟨t, m, by omega, h2, h3⟩
    · obtain ⟨m, h2, h3⟩ := tick_mem h
      exact ⟨n, m, by omega, h2, h3⟩
theorem legE_pw (dead t leg : Int) (x : Lg) (v : Int) : (legE dead t leg x v).Pairwise ltE := by
  unfold legE
  split
  · simp
  · split <;> simp
theorem tick_pw (r : Rq) (t : Nat) : (r.tick t).Pairwise ltE := by
  unfold Rq.tick Rq.e
  rw [List.pairwise_append, List.pairwise_append]
  refine ⟨⟨legE_pw _ _ _ _ _, legE_pw _ _ _ _ _, ?_⟩, legE_pw _ _ _ _ _, ?_⟩
  · intro a ha b hb
    have h1 := legE_mem ha
    have h2 := legE_mem hb
    unfold ltE
    omega
  · intro a ha b hb
    have h2 := legE_mem hb
    unfold ltE
    rcases List.mem_append.1 ha with ha | ha
    · have h1 := legE_mem ha
      omega
    · have h1 := legE_mem ha
      omega
theorem es_pw (r : Rq) (n : Nat) : (r.es n).Pairwise ltE := by
  induction n with
  | zero => exact List.Pairwise.nil
  | succ n ih =>
    rw [Rq.es_succ, List.pairwise_append]
    refine ⟨ih, tick_pw r n, ?_⟩
    intro a ha b hb
    obtain ⟨t, m, h1, _, h3⟩ := es_mem ha
    obtain ⟨m', _, h5⟩ := tick_mem hb
    have q1 := legE_mem h3
    have q2 := legE_mem h5
    unfold ltE
    omega
theorem es_valid {r : Rq} {per : Int} : Valid per (r.es per.toNat) := by
  rw [valid_pairs]
  refine ⟨fun e he => ?_, es_pw r _⟩
  obtain ⟨t, m, h1, h2, h3⟩ := es_mem he
  have q := legE_mem h3
  omega
theorem es_chk {r : Rq} {per : Int} (h1 : 64 ≤ per) (h2 : per ≤ 4096) : chk per (r.es per.toNat) = 0 := by
  unfold chk
  rw [if_pos (by simp only [perOk, Bool.and_eq_true, decide_eq_true_eq]; exact ⟨h1, h2⟩), if_pos ((valid_iff _ _).2 es_valid)]
/-- Behind count t the switches are those of the state. -/
theorem onAt_es {r : Rq} (h : ∀ l, l < 3 → Lok (r.x l)) {n t : Nat} (ht : t < n) : onAt (onL r.x) (r.es n) t = onL (fun l => r.at_ l (t + 1)) := by
  have hle : ∀ k, onAt (onL r.x) (r.es (t + 1 + k)) t = onAt (onL r.x) (r.es (t + 1)) t := by
    intro k
    induction k with
    | zero => rfl
    | succ k ih =>
      rw [show t + 1 + (k + 1) = (t + 1 + k) + 1 from rfl, Rq.es_succ]
      unfold onAt at ih ⊢
      rw [List.foldl_append, ih]
      have := onAt_later (r.tick (t + 1 + k)) t (fun x hx => by
        obtain ⟨m, _, h5⟩ := tick_mem hx
        have q := legE_mem h5
        omega) ((r.es (t + 1)).foldl (fun b e => if e.t ≤ (t : Int) then step b e else b) (onL r.x))
      unfold onAt at this
      exact this
  obtain ⟨k, rfl⟩ : ∃ k, n = t + 1 + k := ⟨n - (t + 1), by omega⟩
  rw [hle, ← fold_es h]
  have := onAt_take (r.es (t + 1)) t (r.es (t + 1)).length (fun i hi x hx => by
    obtain ⟨t', m, h1, _, h3⟩ := es_mem (List.mem_of_getElem? hx)
    have q := legE_mem h3
    omega) (fun i hi x hx => by
    have := (List.getElem?_eq_some_iff.1 hx).1
    omega) (onL r.x)
  rw [this, List.take_length]

end Go.Proofs.Ytgnojdiecgfeaaa
