/- Arguments opened: bytes. -/
import Derived.Test.YtnoihjjenceeaaaDoorDOpen
import Derived.Test.YtnoihjjenceeaaaDoorDevLeads
namespace Go.Proofs.YtnoihjjenceeaaaDoor
open Go.ChangeShapes Go.WideShapes Go.ChangeAt Go.RowKit

section
variable {H : Type} {enc : TypeId × Value → H} {w : World}
theorem u8_wf {n : Int} (h : (Lit.int .u8 n).wf = true) : ∃ x : Nat, n = (x : Int) ∧ x < 256 := by
  have h2 : 0 ≤ n ∧ n ≤ 255 := by
    simp only [Lit.wf, Bool.and_eq_true, decide_eq_true_eq] at h
    have e1 : IntKind.u8.min = 0 := by decide
    have e2 : IntKind.u8.max = 255 := by decide
    omega
  exact ⟨n.toNat, by omega, by omega⟩
set_option maxRecDepth 100000 in
theorem open_u8n {r : Reach} {base : Nat} {v : Value} {d : DataW H} {p : List MemPlace} (hv : Value.okWide Tryd.prog w r base 5 v) (h : DataW.Trod enc Tryd.prog w 0 (fun _ => true) true 5 v d p) :
    ∃ x : Nat, v = .int .u8 (x : Int) ∧ x < 256 := by
  obtain ⟨i, rfl, hw⟩ := open_u8 hv h
  obtain ⟨x, rfl, hx⟩ := u8_wf hw
  exact ⟨x, rfl, hx⟩
set_option maxRecDepth 100000 in
theorem open_u8s {r : Reach} {base : Nat} {v : Value} {d : DataW H} {p : List MemPlace} (hv : Value.okWide Tryd.prog w r base 43 v) (h : DataW.Trod enc Tryd.prog w 0 (fun _ => true) true 43 v d p) :
    ∃ (A : Option Addr) (n c : Nat) (us : List Nat), v = .slice A n c ∧ n = us.length ∧ Sl w w.heap.size 1 A (us.map fun u : Nat => [Value.int .u8 (u : Int)]) ∧ ∀ u ∈ us, u < 256 := by
  obtain ⟨a, len, cap, rfl⟩ := okWide_slice Tryd.underlying43 hv
  obtain ⟨A, n, c, us, hcs, hn, _, hS, hg⟩ := (Fits.one h rfl).rows (fun u : Nat => [Value.int .u8 (u : Int)]) (fun u => u < 256) Tryd.underlying43 cellsU8 (by decide) (fun r _ hr => by
    obtain ⟨i, rfl, hw⟩ := fits_u8 hr
    obtain ⟨x, rfl, hx⟩ := u8_wf hw
    exact ⟨x, rfl, hx⟩)
  simp only [List.cons.injEq, and_true] at hcs
  rw [hcs]
  exact ⟨A, n, c, us, rfl, hn, hS, hg⟩
end

end Go.Proofs.YtnoihjjenceeaaaDoor
