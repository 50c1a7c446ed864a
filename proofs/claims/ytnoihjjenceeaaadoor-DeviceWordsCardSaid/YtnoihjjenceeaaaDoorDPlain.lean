/- Plain facts: the next state of a device. No program in sight. -/
namespace Go.Proofs.YtnoihjjenceeaaaDoor

/-- The next state of a known state. -/
def nx (s : Int) (on volt quick run reset fault link still done : Bool) : Int :=
  if fault = true ∧ s ≠ 6 ∧ s ≠ 7 then (if s = 4 ∨ s = 5 then 6 else 7)
  else if s = 6 then (if done = true then 7 else 6)
  else if s = 7 then (if reset = true ∧ fault = false then 1 else 7)
  else if s = 0 then 1
  else if s = 1 then (if on = false ∧ volt = true ∧ quick = true then 2 else 1)
  else if volt = false then 1
  else if quick = false ∧ s = 4 then 5
  else if quick = false ∧ s ≠ 5 then 1
  else if s = 5 then (if still = true then 1 else 5)
  else if s = 2 then (if on = true ∧ link = true then 3 else 2)
  else if s = 3 then (if on = false then 2 else if run = true then 4 else 3)
  else (if on = false then 2 else if run = true then 4 else 3)
def stOk (s : Int) : Bool := decide (0 ≤ s) && decide (s ≤ 7)
theorem stOk_iff {s : Int} : stOk s = true ↔ 0 ≤ s ∧ s ≤ 7 := by simp [stOk]
theorem st_cases {s : Int} (h : 0 ≤ s ∧ s ≤ 7) : s = 0 ∨ s = 1 ∨ s = 2 ∨ s = 3 ∨ s = 4 ∨ s = 5 ∨ s = 6 ∨ s = 7 := by omega
theorem nx_in (s : Int) (on volt quick run reset fault link still done : Bool) : 0 ≤ nx s on volt quick run reset fault link still done ∧ nx s on volt quick run reset fault link still done ≤ 7 := by
  unfold nx
  repeat' split
  all_goals omega

end Go.Proofs.YtnoihjjenceeaaaDoor
