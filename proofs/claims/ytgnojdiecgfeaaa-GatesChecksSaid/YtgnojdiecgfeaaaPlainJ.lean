/- Plain facts: what a leg is behind a count; legs that are always asked for the same. -/
import Derived.Test.YtgnojdiecgfeaaaPlainI
namespace Go.Proofs.Ytgnojdiecgfeaaa

theorem legS_side (dead : Int) (x : Lg) (v : Int) : (legS dead x v).s = 0 ∨ (legS dead x v).s = v := by
  unfold legS
  split
  · exact .inl rfl
  · rename_i h
    split
    · exact .inr rfl
    · unfold isOff at h
      show x.s = 0 ∨ x.s = v
      omega
/-- Behind a count a leg is off, or on the side that is asked for. -/
theorem at_side (r : Rq) (m t : Nat) : (r.at_ m (t + 1)).s = 0 ∨ (r.at_ m (t + 1)).s = r.want m t := legS_side _ _ _
/-- A leg that has been asked for v at the last count. -/
def Dul (dead v : Int) (x : Lg) : Prop := x.s = v ∨ (x.s = 0 ∧ x.j ≤ dead)
theorem legS_dull {dead v : Int} (hd : 1 ≤ dead) (x : Lg) : Dul dead v (legS dead x v) := by
  unfold legS Dul
  split
  · exact .inr ⟨rfl, hd⟩
  · rename_i h
    split
    · exact .inl rfl
    · rename_i h2
      unfold isOff at h
      unfold isOn at h2
      show x.s = v ∨ (x.s = 0 ∧ min (x.j + 1) 4096 ≤ dead)
      omega
theorem legS_grow {dead v : Int} {x : Lg} (h : Dul dead v x) : (legS dead x v).j = min (x.j + 1) 4096 := by
  unfold legS
  split
  · rename_i h2
    unfold isOff at h2
    unfold Dul at h
    omega
  · split <;> rfl
theorem legE_dull {dead t leg v : Int} {x : Lg} (h : Dul dead v x) (hj : dead < x.j) (hv : v ≠ 0) : legE dead t leg x v = [] := by
  have hs : x.s = v := by
    unfold Dul at h
    omega
  unfold legE
  rw [if_neg (fun h2 => h2.2 hs), if_neg (fun h2 => hv (hs.symm.trans h2.1))]
/-- Always asked for v: behind the first count the leg is so, and its count grows by one each. -/
theorem at_dull {r : Rq} {m n : Nat} {v : Int} (hd : 1 ≤ r.dead) (hw : ∀ t, t < n → r.want m t = v) (h0 : 0 ≤ (r.x m).j) : ∀ t, t < n → Dul r.dead v (r.at_ m (t + 1)) ∧ min ((t : Int) + 1) 4096 ≤ (r.at_ m (t + 1)).j := by
  intro t
  induction t with
  | zero =>
    intro ht
    rw [Rq.at_succ, hw 0 ht]
    refine ⟨legS_dull hd _, ?_⟩
    show min ((0 : Int) + 1) 4096 ≤ (legS r.dead (r.x m) v).j
    unfold legS
    split
    · show min ((0 : Int) + 1) 4096 ≤ 1; omega
    · split
      · show min ((0 : Int) + 1) 4096 ≤ min ((r.x m).j + 1) 4096; omega
      · show min ((0 : Int) + 1) 4096 ≤ min ((r.x m).j + 1) 4096; omega
  | succ t ih =>
    intro ht
    obtain ⟨h1, h2⟩ := ih (by omega)
    rw [Rq.at_succ, hw (t + 1) ht]
    refine ⟨legS_dull hd _, ?_⟩
    rw [legS_grow h1]
    omega
/-- From such a leg on, asked for the same, the count grows by one each. -/
theorem at_dull_from {r : Rq} {m n : Nat} {v : Int} (hd : 1 ≤ r.dead) (hw : ∀ t, t < n → r.want m t = v) (h0 : Dul r.dead v (r.x m)) : ∀ t, t ≤ n → Dul r.dead v (r.at_ m t) ∧ min ((r.x m).j + t) 4096 ≤ (r.at_ m t).j ∨ t = 0 := by
  intro t
  induction t with
  | zero => intro _; exact .inr rfl
  | succ t ih =>
    intro ht
    refine .inl ?_
    rw [Rq.at_succ, hw t (by omega)]
    refine ⟨legS_dull hd _, ?_⟩
    rcases ih (by omega) with ⟨h1, h2⟩ | h2
    · rw [legS_grow h1]; omega
    · subst h2
      have := legS_grow h0
      show min _ _ ≤ (legS r.dead (r.x m) v).j
      rw [this]
      omega
theorem es_dull {r : Rq} {n : Nat} {v : Nat → Int} (hd : 1 ≤ r.dead) (hv : ∀ m, m < 3 → v m ≠ 0) (hw : ∀ m, m < 3 → ∀ t, t < n → r.want m t = v m) (h0 : ∀ m, m < 3 → Dul r.dead (v m) (r.x m) ∧ r.dead < (r.x m).j) (hb : r.dead < 4096) : ∀ t, t ≤ n → r.es t = [] := by
  intro t
  induction t with
  | zero => intro _; rfl
  | succ t ih =>
    intro ht
    have p := fun (m : Nat) (hm : m < 3) => show r.e m t = [] from by
      unfold Rq.e
      rw [hw m hm t (by omega)]
      have hdl : Dul r.dead (v m) (r.at_ m t) ∧ r.dead < (r.at_ m t).j := by
        rcases at_dull_from hd (hw m hm) (h0 m hm).1 t (by omega) with ⟨h1, h2⟩ | h2
        · exact ⟨h1, by have := (h0 m hm).2; omega⟩
        · subst h2; exact h0 m hm
      exact legE_dull hdl.1 hdl.2 (hv m hm)
    rw [Rq.es_succ, ih (by omega), Rq.tick, p 0 (by omega), p 1 (by omega), p 2 (by omega)]
    rfl

end Go.Proofs.Ytgnojdiecgfeaaa
