/- A byte opened; what MachineFades needs. -/
import Derived.Test.YtmmplfokidnpnaaOpen
import Derived.Test.YtmmplfokidnpnaaMFades
namespace Go.Proofs.Ytmmplfokidnpnaa
open Go.ChangeShapes Go.WideShapes Go.ChangeAt Go.RowKit

section
variable {H : Type} {enc : TypeId × Value → H} {w : World}
set_option maxRecDepth 100000 in
theorem open_u8 {r : Reach} {base : Nat} {v : Value} {d : DataW H} {p : List MemPlace} (hv : Value.okWide Try.prog w r base 5 v) (h : DataW.Trod enc Try.prog w 0 (fun _ => true) true 5 v d p) :
    ∃ i, v = .int .u8 i ∧ 0 ≤ i ∧ i ≤ 255 := by
  obtain ⟨i, rfl⟩ := okWide_int Try.underlying5 hv
  obtain ⟨j, hj, hw⟩ := (Fits.one h rfl).int Try.underlying5
  simp only [List.cons.injEq, and_true, Value.int.injEq, true_and] at hj
  subst hj
  refine ⟨i, rfl, ?_⟩
  simp [Lit.wf] at hw
  exact hw
end

end Go.Proofs.Ytmmplfokidnpnaa
