/- Plain: the reference's search for the shortest list of words. -/
import Derived.Test.YtnoihjjenceeaaaDoorDWPlain
namespace Go.Proofs.YtnoihjjenceeaaaDoor
/-- A way to a state is added, if the state is new. -/
def addW (n : Int) (l : List Int) (p : List (List Int) × List Int) : List (List Int) × List Int := if p.2.any (· == n) then p else (p.1 ++ [l], p.2 ++ [n])
def rwS (s : Int) (wk : List Int) (p : List (List Int) × List Int) : Nat → List (List Int) × List Int
  | 0 => p
  | j + 1 => addW (stp s (cw.getD j 0)) (wk ++ [cw.getD j 0]) (rwS s wk p j)
def rwK (q : List (List Int) × List Int) : Nat → List (List Int) × List Int
  | 0 => ([], [])
  | k + 1 => rwS (q.2.getD k 0) (q.1.getD k []) (rwK q k) 6
/-- The ways and their ends behind r rounds. -/
def rwR (a : Int) : Nat → List (List Int) × List Int
  | 0 => ([[]], [a])
  | r + 1 => rwK (rwR a r) (rwR a r).2.length
/-- Where the search ends, from round r on. -/
def rwF (a to : Int) : Nat → Nat → Option (List Int)
  | 0, _ => none
  | f + 1, r => match (rwR a r).2.findIdx? (· == to) with
    | some k => some ((rwR a r).1.getD k [])
    | none => rwF a to f (r + 1)
def okR (p : List (List Int) × List Int) (r : Nat) : Bool := p.1.length == p.2.length && decide (p.2.length ≤ 8) && p.1.all (fun l => l.length == r) && p.2.all fun s => decide (0 ≤ s) && decide (s ≤ 7)
theorem rwR_ok : ∀ a : Nat, a < 8 → ∀ r, r < 10 → okR (rwR a r) r = true := by decide +kernel
theorem rwF_is : ∀ a : Nat, a < 8 → ∀ to : Nat, to < 8 → rwF a to 9 0 = if 0 ≤ gI (fin to) a then some (ways a to) else none := by decide +kernel
end Go.Proofs.YtnoihjjenceeaaaDoor
