/- Plain facts: the ways between the states of a device. -/
import Derived.Test.YtnoihjjenceeaaaDoorDNext
namespace Go.Proofs.YtnoihjjenceeaaaDoor

/-- The next state with a word, a charged link, at a standstill, all done. -/
def stp (s c : Int) : Int := nx s (bt c 1) (bt c 2) (bt c 4) (bt c 8) (bt c 128) false true true true
def cw : List Int := [0, 2, 6, 7, 15, 128]
def gI (f : List Int) (i : Int) : Int := f.getD i.toNat 0
/-- One look at a word. -/
def relax (s : Int) (p : List Int × Bool) (c : Int) : List Int × Bool :=
  if 0 ≤ gI p.1 (stp s c) ∧ (gI p.1 s < 0 ∨ gI p.1 (stp s c) + 1 < gI p.1 s) then (p.1.set s.toNat (gI p.1 (stp s c) + 1), true) else p
def relS (s : Int) (p : List Int × Bool) : Nat → List Int × Bool
  | 0 => p
  | j + 1 => relax s (relS s p j) (cw.getD j 0)
def relR (p : List Int × Bool) : Nat → List Int × Bool
  | 0 => p
  | k + 1 => relS k (relR p k) 6
/-- The numbers of ticks to a state, round by round. -/
def tbl (to r : Nat) : List Int :=
  match to, r with
  | 0, 0 => [0, -1, -1, -1, -1, -1, -1, -1]
  | 0, 1 => [0, -1, -1, -1, -1, -1, -1, -1]
  | 0, 2 => [0, -1, -1, -1, -1, -1, -1, -1]
  | 0, 3 => [0, -1, -1, -1, -1, -1, -1, -1]
  | 0, 4 => [0, -1, -1, -1, -1, -1, -1, -1]
  | 0, 5 => [0, -1, -1, -1, -1, -1, -1, -1]
  | 1, 0 => [-1, 0, -1, -1, -1, -1, -1, -1]
  | 1, 1 => [1, 0, 1, 1, 1, 1, -1, 1]
  | 1, 2 => [1, 0, 1, 1, 1, 1, 2, 1]
  | 1, 3 => [1, 0, 1, 1, 1, 1, 2, 1]
  | 1, 4 => [1, 0, 1, 1, 1, 1, 2, 1]
  | 1, 5 => [1, 0, 1, 1, 1, 1, 2, 1]
  | 2, 0 => [-1, -1, 0, -1, -1, -1, -1, -1]
  | 2, 1 => [-1, 1, 0, 1, 1, 2, -1, 2]
  | 2, 2 => [2, 1, 0, 1, 1, 2, 3, 2]
  | 2, 3 => [2, 1, 0, 1, 1, 2, 3, 2]
  | 2, 4 => [2, 1, 0, 1, 1, 2, 3, 2]
  | 2, 5 => [2, 1, 0, 1, 1, 2, 3, 2]
  | 3, 0 => [-1, -1, -1, 0, -1, -1, -1, -1]
  | 3, 1 => [-1, -1, 1, 0, 1, -1, -1, -1]
  | 3, 2 => [-1, 2, 1, 0, 1, 3, -1, 3]
  | 3, 3 => [3, 2, 1, 0, 1, 3, 4, 3]
  | 3, 4 => [3, 2, 1, 0, 1, 3, 4, 3]
  | 3, 5 => [3, 2, 1, 0, 1, 3, 4, 3]
  | 4, 0 => [-1, -1, -1, -1, 0, -1, -1, -1]
  | 4, 1 => [-1, -1, -1, 1, 0, -1, -1, -1]
  | 4, 2 => [-1, -1, 2, 1, 0, -1, -1, -1]
  | 4, 3 => [-1, 3, 2, 1, 0, 4, -1, 4]
  | 4, 4 => [4, 3, 2, 1, 0, 4, 5, 4]
  | 4, 5 => [4, 3, 2, 1, 0, 4, 5, 4]
  | 5, 0 => [-1, -1, -1, -1, -1, 0, -1, -1]
  | 5, 1 => [-1, -1, -1, -1, 1, 0, -1, -1]
  | 5, 2 => [-1, -1, -1, 2, 1, 0, -1, -1]
  | 5, 3 => [-1, -1, 3, 2, 1, 0, -1, -1]
  | 5, 4 => [-1, 4, 3, 2, 1, 0, -1, 5]
  | 5, 5 => [5, 4, 3, 2, 1, 0, 6, 5]
  | 6, 0 => [-1, -1, -1, -1, -1, -1, 0, -1]
  | 6, 1 => [-1, -1, -1, -1, -1, -1, 0, -1]
  | 6, 2 => [-1, -1, -1, -1, -1, -1, 0, -1]
  | 6, 3 => [-1, -1, -1, -1, -1, -1, 0, -1]
  | 6, 4 => [-1, -1, -1, -1, -1, -1, 0, -1]
  | 6, 5 => [-1, -1, -1, -1, -1, -1, 0, -1]
  | 7, 0 => [-1, -1, -1, -1, -1, -1, -1, 0]
  | 7, 1 => [-1, -1, -1, -1, -1, -1, 1, 0]
  | 7, 2 => [-1, -1, -1, -1, -1, -1, 1, 0]
  | 7, 3 => [-1, -1, -1, -1, -1, -1, 1, 0]
  | 7, 4 => [-1, -1, -1, -1, -1, -1, 1, 0]
  | 7, 5 => [-1, -1, -1, -1, -1, -1, 1, 0]
  | _, _ => []
def chg (to r : Nat) : Bool :=
  match to, r with
  | 1, 0 => true
  | 1, 1 => true
  | 2, 0 => true
  | 2, 1 => true
  | 3, 0 => true
  | 3, 1 => true
  | 3, 2 => true
  | 4, 0 => true
  | 4, 1 => true
  | 4, 2 => true
  | 4, 3 => true
  | 5, 0 => true
  | 5, 1 => true
  | 5, 2 => true
  | 5, 3 => true
  | 5, 4 => true
  | 7, 0 => true
  | _, _ => false
def rounds : Nat := 5
/-- The numbers of ticks to a state. -/
def fin (to : Int) : List Int := tbl to.toNat rounds
theorem tbl_ini : ∀ to, to < 8 → (List.replicate 8 (-1)).set to 0 = tbl to 0 := by decide +kernel
theorem tbl_step : ∀ to, to < 8 → ∀ r, r < rounds → relR (tbl to r, false) 8 = (tbl to (r + 1), chg to r) := by decide +kernel
theorem tbl_last : ∀ to, to < 8 → relR (tbl to rounds, false) 8 = (tbl to rounds, false) := by decide +kernel
theorem tbl_same : ∀ to, to < 8 → ∀ r, r < rounds → chg to r = false → tbl to (r + 1) = tbl to rounds := by decide +kernel
theorem tbl_len : ∀ to, to < 8 → ∀ r, r ≤ rounds → (tbl to r).length = 8 ∧ ∀ x ∈ tbl to r, -1 ≤ x ∧ x ≤ 8 := by decide +kernel
theorem fin_to : ∀ to : Nat, to < 8 → gI (fin to) to = 0 := by decide +kernel
theorem fin_way : ∀ to : Nat, to < 8 → ∀ s : Nat, s < 8 → s ≠ to → 0 ≤ gI (fin to) s → 1 ≤ gI (fin to) s ∧ ∃ j, j < 6 ∧ gI (fin to) (stp s (cw.getD j 0)) = gI (fin to) s - 1 := by decide +kernel
def phi (f : List Int) : Nat := (f.map fun v => if v < 0 then 20 else v.toNat).sum
theorem tbl_phi : ∀ to, to < 8 → ∀ r, r < rounds → chg to r = true → phi (tbl to (r + 1)) < phi (tbl to r) := by decide +kernel
def mk8 (k : Nat) : List Int := List.replicate k (-1) ++ List.replicate (8 - k) 0
theorem mk8_set : ∀ k, k < 8 → (mk8 k).set k (-1) = mk8 (k + 1) ∧ (mk8 k).length = 8 := by decide +kernel
theorem stp_in (s c : Int) : 0 ≤ stp s c ∧ stp s c ≤ 7 := nx_in _ _ _ _ _ _ _ _ _ _
theorem relax_len (s : Int) (p : List Int × Bool) (c : Int) (h : p.1.length = 8) : (relax s p c).1.length = 8 := by
  unfold relax; split
  · simp [h]
  · exact h
theorem relS_len (s : Int) (p : List Int × Bool) (h : p.1.length = 8) (j : Nat) : (relS s p j).1.length = 8 := by
  induction j with
  | zero => exact h
  | succ j ih => exact relax_len _ _ _ ih
theorem relR_len (p : List Int × Bool) (h : p.1.length = 8) (k : Nat) : (relR p k).1.length = 8 := by
  induction k with
  | zero => exact h
  | succ k ih => exact relS_len _ _ ih 6
theorem gI_bd {f : List Int} {B : Int} (hB : 0 ≤ B) (h : ∀ x ∈ f, -1 ≤ x ∧ x ≤ B) (i : Int) : -1 ≤ gI f i ∧ gI f i ≤ B := by
  unfold gI
  rw [List.getD_eq_getElem?_getD]
  cases hq : f[i.toNat]? with
  | none => simp; omega
  | some y => exact h y (List.mem_of_getElem? hq)
theorem relax_bd {s : Int} {p : List Int × Bool} {c B : Int} (hB : 0 ≤ B) (h : ∀ x ∈ p.1, -1 ≤ x ∧ x ≤ B) : ∀ x ∈ (relax s p c).1, -1 ≤ x ∧ x ≤ B + 1 := by
  intro x hx
  have hb := gI_bd hB h (stp s c)
  unfold relax at hx
  split at hx
  · rcases List.mem_or_eq_of_mem_set hx with hx | hx
    · have := h x hx; omega
    · rw [hx]; omega
  · have := h x hx; omega
theorem relS_bd {s : Int} {p : List Int × Bool} {B : Int} (hB : 0 ≤ B) (h : ∀ x ∈ p.1, -1 ≤ x ∧ x ≤ B) (j : Nat) : ∀ x ∈ (relS s p j).1, -1 ≤ x ∧ x ≤ B + j := by
  induction j with
  | zero => intro x hx; have := h x hx; omega
  | succ j ih =>
    intro x hx
    have := relax_bd (by omega) ih x hx
    omega
theorem relR_bd {p : List Int × Bool} {B : Int} (hB : 0 ≤ B) (h : ∀ x ∈ p.1, -1 ≤ x ∧ x ≤ B) (k : Nat) : ∀ x ∈ (relR p k).1, -1 ≤ x ∧ x ≤ B + 6 * k := by
  induction k with
  | zero => intro x hx; have := h x hx; omega
  | succ k ih =>
    intro x hx
    have := relS_bd (s := k) (by omega) ih 6 x hx
    omega
/-- The first word that leads nearer. -/
def pick (f : List Int) (s : Int) : List Int → Option Int
  | [] => none
  | c :: cs => if gI f (stp s c) = gI f s - 1 then some c else pick f s cs
theorem pick_at (f : List Int) (s : Int) : ∀ (l : List Int) (j : Nat) (c : Int), l[j]? = some c → gI f (stp s c) = gI f s - 1 → (∀ i c', i < j → l[i]? = some c' → gI f (stp s c') ≠ gI f s - 1) → pick f s l = some c
  | [], j, c, h, _, _ => by simp at h
  | d :: l, 0, c, h, he, _ => by
    simp only [List.getElem?_cons_zero, Option.some.injEq] at h
    subst h
    exact if_pos he
  | d :: l, j + 1, c, h, he, hn => by
    simp only [List.getElem?_cons_succ] at h
    unfold pick
    rw [if_neg (hn 0 d (by omega) rfl)]
    exact pick_at f s l j c h he (fun i c' hi hc => hn (i + 1) c' (by omega) (by simpa using hc))
/-- The words to a state, of a number of ticks. -/
def pth (f : List Int) : Nat → Int → List Int
  | 0, _ => []
  | n + 1, s => match pick f s cw with
    | some c => c :: pth f n (stp s c)
    | none => []
def ways (s to : Int) : List Int := pth (fin to) (gI (fin to) s).toNat s
theorem pth_len (f : List Int) (n : Nat) : ∀ s, (pth f n s).length ≤ n := by
  induction n with
  | zero => intro s; simp [pth]
  | succ n ih =>
    intro s
    unfold pth
    split
    · have := ih (stp s ‹Int›); simp only [List.length_cons]; omega
    · simp
theorem ways_run : ways 7 4 = [128, 6, 7, 15] := by decide +kernel
theorem fin_run : 0 ≤ gI (fin 4) 7 := by decide +kernel

end Go.Proofs.YtnoihjjenceeaaaDoor
