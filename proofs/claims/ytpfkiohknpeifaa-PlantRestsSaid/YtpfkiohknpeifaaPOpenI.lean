/- A list of numbers, opened. -/
import Derived.Test.YtpfkiohknpeifaaPOpen
namespace Go.Proofs.Ytpfkiohknpeifaa
open Go.ChangeShapes Go.WideShapes Go.ChangeAt Go.RowKit
section
variable {H : Type} {enc : TypeId × Value → H} {w : World}
set_option maxRecDepth 100000 in
theorem open_ints {r : Reach} {base : Nat} {v : Value} {d : DataW H} {p : List MemPlace} (hv : Value.okWide Try.prog w r base 22 v) (h : DataW.Trod enc Try.prog w 0 (fun _ => true) true 22 v d p) :
    ∃ (A : Option Addr) (n c : Nat) (X : List Int), v = .slice A n c ∧ n = X.length ∧ Sl w w.heap.size 1 A (rows X) := by
  obtain ⟨a, len, cap, rfl⟩ := okWide_slice Try.underlying22 hv
  obtain ⟨A, n, c, X, hcs, hn, hS⟩ := pf_ints (Fits.one h rfl)
  simp only [List.cons.injEq, and_true] at hcs
  rw [hcs]
  exact ⟨A, n, c, X, rfl, hn, hS⟩
end
end Go.Proofs.Ytpfkiohknpeifaa
