/- Plain facts: the legs of layer 24 and the signals of a period. No program in sight. -/
import Derived.Test.YtgnojdiecgfeaaaPlain
namespace Go.Proofs.Ytgnojdiecgfeaaa

/-- A leg: its side (0: off, 1: lower, 2: upper), and the counts since it was turned off. -/
structure Lg where
  s : Int
  j : Int
/-- The side that a pattern asks for at a count. -/
def wantF (f o t trip : Int) : Int := if trip ≤ t then 0 else if f ≤ t ∧ t < o then 2 else 1
/-- The switch of a side of a leg. -/
def numb (leg side : Int) : Int := if side = 2 then 2 * leg else 2 * leg + 1
def isOff (x : Lg) (v : Int) : Prop := x.s ≠ 0 ∧ x.s ≠ v
def isOn (dead : Int) (x : Lg) (v : Int) : Prop := x.s = 0 ∧ v ≠ 0 ∧ dead ≤ x.j
instance (x : Lg) (v : Int) : Decidable (isOff x v) := by unfold isOff; infer_instance
instance (dead : Int) (x : Lg) (v : Int) : Decidable (isOn dead x v) := by unfold isOn; infer_instance
/-- A leg behind one count. -/
def legS (dead : Int) (x : Lg) (v : Int) : Lg := if isOff x v then ⟨0, 1⟩ else if isOn dead x v then ⟨v, min (x.j + 1) 4096⟩ else ⟨x.s, min (x.j + 1) 4096⟩
/-- The edges of a leg at one count. -/
def legE (dead t leg : Int) (x : Lg) (v : Int) : List Ed := if isOff x v then [⟨t, numb leg x.s, false⟩] else if isOn dead x v then [⟨t, numb leg v, true⟩] else []
/-- A leg at the begin of a count. -/
def legAt (dead trip f o : Int) (x : Lg) : Nat → Lg
  | 0 => x
  | t + 1 => legS dead (legAt dead trip f o x t) (wantF f o t trip)
/-- What Run is asked for, and the legs at the begin. -/
structure Rq where
  per : Int
  dead : Int
  trip : Int
  f : Nat → Int
  o : Nat → Int
  x : Nat → Lg
def p3 {α : Type} (a b c : α) : Nat → α
  | 0 => a
  | 1 => b
  | _ => c
def Rq.want (r : Rq) (leg t : Nat) : Int := wantF (r.f leg) (r.o leg) t r.trip
def Rq.at_ (r : Rq) (leg t : Nat) : Lg := legAt r.dead r.trip (r.f leg) (r.o leg) (r.x leg) t
def Rq.e (r : Rq) (leg t : Nat) : List Ed := legE r.dead t leg (r.at_ leg t) (r.want leg t)
def Rq.tick (r : Rq) (t : Nat) : List Ed := r.e 0 t ++ r.e 1 t ++ r.e 2 t
/-- The edges ahead of a count. -/
def Rq.es (r : Rq) : Nat → List Ed
  | 0 => []
  | t + 1 => r.es t ++ r.tick t
theorem Rq.at_succ (r : Rq) (leg t : Nat) : r.at_ leg (t + 1) = legS r.dead (r.at_ leg t) (r.want leg t) := rfl
theorem Rq.es_succ (r : Rq) (t : Nat) : r.es (t + 1) = r.es t ++ r.tick t := rfl
/-- A leg in its ranges. -/
structure Lok (x : Lg) : Prop where
  s : x.s = 0 ∨ x.s = 1 ∨ x.s = 2
  j0 : 0 ≤ x.j
  j1 : x.j ≤ 4096
theorem wantF_cases (f o t trip : Int) : wantF f o t trip = 0 ∨ wantF f o t trip = 1 ∨ wantF f o t trip = 2 := by
  unfold wantF; split
  · exact .inl rfl
  · split
    · exact .inr (.inr rfl)
    · exact .inr (.inl rfl)
theorem Lok.step {dead : Int} {x : Lg} {v : Int} (h : Lok x) (hv : v = 0 ∨ v = 1 ∨ v = 2) : Lok (legS dead x v) := by
  obtain ⟨h1, h2, h3⟩ := h
  unfold legS
  split
  · exact ⟨.inl rfl, by decide, by decide⟩
  · split
    · exact ⟨hv, by show 0 ≤ min _ _; omega, by show min _ _ ≤ _; omega⟩
    · exact ⟨h1, by show 0 ≤ min _ _; omega, by show min _ _ ≤ _; omega⟩
theorem Rq.lok {r : Rq} (h : ∀ leg, Lok (r.x leg)) (leg t : Nat) : Lok (r.at_ leg t) := by
  induction t with
  | zero => exact h leg
  | succ t ih => exact ih.step (wantF_cases _ _ _ _)
theorem legE_len (dead t leg : Int) (x : Lg) (v : Int) : (legE dead t leg x v).length ≤ 1 := by
  unfold legE
  split
  · simp
  · split <;> simp
theorem Rq.es_len (r : Rq) (t : Nat) : (r.es t).length ≤ 3 * t := by
  induction t with
  | zero => simp [Rq.es]
  | succ t ih =>
    have h0 := legE_len r.dead t (0 : Nat) (r.at_ 0 t) (r.want 0 t)
    have h1 := legE_len r.dead t (1 : Nat) (r.at_ 1 t) (r.want 1 t)
    have h2 := legE_len r.dead t (2 : Nat) (r.at_ 2 t) (r.want 2 t)
    rw [Rq.es_succ]
    simp only [Rq.tick, Rq.e, List.length_append]
    omega
/-- The legs are in their ranges, the period and the dead time too. -/
def legOk (x : Lg) : Bool := decide (0 ≤ x.s) && decide (x.s ≤ 2) && decide (0 ≤ x.j) && decide (x.j ≤ 4096)
def deadOk (d : Int) : Bool := decide (1 ≤ d) && decide (d ≤ 1024)
def rngOk (x0 x1 x2 : Lg) (per dead : Int) : Bool := legOk x0 && legOk x1 && legOk x2 && perOk per && deadOk dead
def shpOk (f o per : Int) : Bool := decide (0 ≤ f) && decide (f ≤ o) && decide (o ≤ per)
/-- The number of the error of Run. -/
def rcode (x0 x1 x2 : Lg) (f0 o0 f1 o1 f2 o2 per dead trip : Int) : Int :=
  if rngOk x0 x1 x2 per dead && (decide (0 ≤ trip) && decide (trip ≤ per)) then (if shpOk f0 o0 per && shpOk f1 o1 per && shpOk f2 o2 per then 0 else 11) else 3
theorem legOk_lok {x : Lg} (h : legOk x = true) : Lok x := by
  simp only [legOk, Bool.and_eq_true, decide_eq_true_eq] at h
  exact ⟨by omega, h.1.2, h.2⟩

end Go.Proofs.Ytgnojdiecgfeaaa
