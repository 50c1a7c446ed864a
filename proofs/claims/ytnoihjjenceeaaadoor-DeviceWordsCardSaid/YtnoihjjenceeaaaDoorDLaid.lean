/- What the listed package-level variables give the walks. -/
import Derived.Test.YtnoihjjenceeaaaDoorDSmall
import Derived.ProofKit
import Derived.LaidMore
import Derived.OpenShut
import Derived.Stop.Joined
namespace Go.Proofs.YtnoihjjenceeaaaDoor
open Go.ChangeShapes Go.WideShapes Go.ChangeAt Go.WideMaps Go.WideElems Go.RowKit

theorem own : ownKnob Tryd.prog.godebug = none := by kernel_rfl
theorem laidOut : laidOutB Tryd.prog = true := by kernel_rfl
theorem gControl : Tryd.prog.globalNamed "commutator/device.controlWords" = some 0 := by kernel_rfl
theorem tControl : (Tryd.prog.globals[0]?).map (·.type) = some 55 := by kernel_rfl
def laidC {H : Type} : List (String × DataW H) := [("commutator/device.controlWords", Rows.laid_commutator_device_controlWords)]
theorem of_laid {W : World} (h : laidMetH Tryd.prog laidC W) : Cw W := by
  rw [MakeChecks.laidMetH_plain _ _ _ (by kernel_rfl)] at h
  obtain ⟨ps, ⟨g0, t0, cs0, f0, p0, q0, hg0, ht0, hv0, hd0, _, _⟩, _, _⟩ := h
  obtain rfl := Option.some.inj (gControl.symm.trans hg0)
  obtain rfl := Option.some.inj (tControl.symm.trans ht0)
  obtain ⟨xs, m1, rfl, hx1, hlen, hn3, hel⟩ := DataW.trod_array Tryd.underlying55 hd0
  have c3 : Tryd.prog.cellsOf 3 = 1 := by kernel_rfl
  simp only [c3, Nat.mul_one] at hel
  have hx : xs.map (fun x => x.1) = [.lit (.int .i64 0), .lit (.int .i64 2), .lit (.int .i64 6), .lit (.int .i64 7), .lit (.int .i64 15), .lit (.int .i64 128)] := by
    simp only [Prod.mk.injEq, Rows.laid_commutator_device_controlWords, DataW.agg.injEq] at hx1
    exact hx1.1.symm
  have key : ∀ (i : Nat) (n : Int), i < 6 → (xs.map (fun x => x.1))[i]? = some (.lit (.int .i64 n)) → W.cell? ⟨0, i, none⟩ = some (.int .i64 n) := by
    intro i n hi hn
    have h := hel i hi
    have hi' : i < xs.length := by omega
    rw [List.getElem?_eq_getElem hi'] at h
    rw [List.getElem?_map, List.getElem?_eq_getElem hi'] at hn
    simp only [Option.map_some, Option.some.injEq] at hn
    obtain ⟨k, e1, e2, _⟩ := DataW.trod_int Tryd.underlying3 h
    rw [e2] at hn
    have hk : k = n := by simpa using hn
    subst hk
    have hc : cs0[i]? = some (.int .i64 k) := by
      have h2 : (List.take 1 (List.drop i cs0.toList))[0]? = some (.int .i64 k) := by rw [e1]; rfl
      rw [List.getElem?_take_of_lt (by decide), List.getElem?_drop] at h2
      simpa using h2
    have := World.var?_cell hg0 hv0 i
    rw [hc] at this
    exact this
  rw [hx] at key
  exact ⟨key 0 0 (by decide) rfl, key 1 2 (by decide) rfl, key 2 6 (by decide) rfl, key 3 7 (by decide) rfl, key 4 15 (by decide) rfl, key 5 128 (by decide) rfl⟩

end Go.Proofs.YtnoihjjenceeaaaDoor
