/- Plain facts: the edges of a count as the reference lists them: the switches that have changed. -/
import Derived.Test.YtgnojdiecgfeaaaOwnB
namespace Go.Proofs.Ytgnojdiecgfeaaa

/-- Which switches are on in a state, by number. -/
def onQ (x : Nat → Lg) : Nat → Bool
  | 0 => (x 0).s == 2
  | 1 => (x 0).s == 1
  | 2 => (x 1).s == 2
  | 3 => (x 1).s == 1
  | 4 => (x 2).s == 2
  | _ => (x 2).s == 1
/-- The edges of the first switches that have changed. -/
def swE (t : Int) (was on : Nat → Bool) : Nat → List Ed
  | 0 => []
  | k + 1 => swE t was on k ++ (if on k = was k then [] else [⟨t, k, on k⟩])
theorem swE_len (t : Int) (was on : Nat → Bool) (k : Nat) : (swE t was on k).length ≤ k := by
  induction k with
  | zero => simp [swE]
  | succ k ih =>
    simp only [swE, List.length_append]
    split <;> simp <;> omega
theorem leg_pair {dead t leg : Int} {x : Lg} {v : Int} (hx : x.s = 0 ∨ x.s = 1 ∨ x.s = 2) (hv : v = 0 ∨ v = 1 ∨ v = 2) :
    (if ((legS dead x v).s == 2) = (x.s == 2) then [] else [Ed.mk t (2 * leg) ((legS dead x v).s == 2)]) ++ (if ((legS dead x v).s == 1) = (x.s == 1) then [] else [Ed.mk t (2 * leg + 1) ((legS dead x v).s == 1)]) = legE dead t leg x v := by
  obtain ⟨s, j⟩ := x
  simp only at hx
  by_cases hj : dead ≤ j
  · rcases hx with rfl | rfl | rfl <;> rcases hv with rfl | rfl | rfl <;> simp [legS, legE, isOff, isOn, numb, hj]
  · rcases hx with rfl | rfl | rfl <;> rcases hv with rfl | rfl | rfl <;> simp [legS, legE, isOff, isOn, numb, hj]
theorem swE_tick {r : Rq} (h : ∀ l, l < 3 → Lok (r.x l)) (t : Nat) : swE t (onQ (fun l => r.at_ l t)) (onQ (fun l => r.at_ l (t + 1))) 6 = r.tick t := by
  have p := fun (l : Nat) (hl : l < 3) => leg_pair (dead := r.dead) (t := t) (leg := l) ((Rq.lok3 h l hl t).s) (wantF_cases (r.f l) (r.o l) t r.trip)
  have p0 := p 0 (by omega)
  have p1 := p 1 (by omega)
  have p2 := p 2 (by omega)
  unfold Rq.tick Rq.e Rq.want
  rw [← p0, ← p1, ← p2]
  simp only [swE, onQ, Rq.at_succ, Rq.want, List.nil_append, List.append_assoc]
  rfl

end Go.Proofs.Ytgnojdiecgfeaaa
