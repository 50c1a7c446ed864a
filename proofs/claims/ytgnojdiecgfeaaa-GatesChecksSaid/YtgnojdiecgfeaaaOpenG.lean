/- The arguments of layer 24's statements, opened: three legs; what Run is asked for. -/
import Derived.Test.YtgnojdiecgfeaaaOpen
import Derived.Test.YtgnojdiecgfeaaaOwnB
namespace Go.Proofs.Ytgnojdiecgfeaaa
open Go.ChangeShapes Go.WideShapes Go.ChangeAt Go.RowKit

theorem list2 {α : Type} {l : List α} (h : l.length = 2) : ∃ a b, l = [a, b] := by
  match l, h with
  | [a, b], _ => exact ⟨a, b, rfl⟩
theorem list9 {α : Type} {l : List α} (h : l.length = 9) : ∃ a b c d e f g i j, l = [a, b, c, d, e, f, g, i, j] := by
  match l, h with
  | [a, b, c, d, e, f, g, i, j], _ => exact ⟨a, b, c, d, e, f, g, i, j, rfl⟩
section
variable {H : Type} {enc : TypeId × Value → H} {w : World}
theorem Try.cellsGLeg : Try.prog.cellsOf 47 = 2 := by kernel_rfl
theorem Try.cellsLeg : Try.prog.cellsOf 50 = 2 := by kernel_rfl
theorem Try.cellsGLegs : Try.prog.cellsOf 48 = 6 := by kernel_rfl
theorem Try.cellsLegs : Try.prog.cellsOf 51 = 6 := by kernel_rfl
theorem Try.cellsDrive : Try.prog.cellsOf 53 = 9 := by kernel_rfl
theorem fits_gleg {cs : List Value} (h : Fits enc Try.prog w 47 cs) : ∃ s j, cs = [.int .i64 s, .int .i64 j] := by
  obtain ⟨hl, hf⟩ := h.struct Try.underlying47
  rw [Try.cellsGLeg] at hl
  obtain ⟨a, b, rfl⟩ := list2 hl
  have h0 : Fits enc Try.prog w 3 (([a, b].drop 0).take (Try.prog.cellsOf 3)) := hf 0 _ rfl
  have h1 : Fits enc Try.prog w 3 (([a, b].drop 1).take (Try.prog.cellsOf 3)) := hf 1 _ rfl
  simp only [Try.cellsInt, List.drop_succ_cons, List.drop_zero, List.take_succ_cons, List.take_zero] at h0 h1
  obtain ⟨t, e0, _⟩ := fits_int h0
  obtain ⟨s, e1, _⟩ := fits_int h1
  simp only [List.cons.injEq, and_true] at e0 e1
  subst e0 e1
  exact ⟨t, s, rfl⟩
theorem fits_leg {cs : List Value} (h : Fits enc Try.prog w 50 cs) : ∃ s j, cs = [.int .i64 s, .int .i64 j] := by
  obtain ⟨hl, hf⟩ := h.struct Try.underlying50
  rw [Try.cellsLeg] at hl
  obtain ⟨a, b, rfl⟩ := list2 hl
  have h0 : Fits enc Try.prog w 3 (([a, b].drop 0).take (Try.prog.cellsOf 3)) := hf 0 _ rfl
  have h1 : Fits enc Try.prog w 3 (([a, b].drop 1).take (Try.prog.cellsOf 3)) := hf 1 _ rfl
  simp only [Try.cellsInt, List.drop_succ_cons, List.drop_zero, List.take_succ_cons, List.take_zero] at h0 h1
  obtain ⟨t, e0, _⟩ := fits_int h0
  obtain ⟨s, e1, _⟩ := fits_int h1
  simp only [List.cons.injEq, and_true] at e0 e1
  subst e0 e1
  exact ⟨t, s, rfl⟩
theorem fits_glegs {cs : List Value} (h : Fits enc Try.prog w 48 cs) : ∃ x : Nat → Lg, cs = (cellsL x).toList := by
  obtain ⟨hl, hf⟩ := h.array Try.underlying48
  rw [Try.cellsGLegs] at hl
  obtain ⟨a, b, c, d, e, f, rfl⟩ := six_of hl
  have h0 := hf 0 (by decide)
  have h1 := hf 1 (by decide)
  have h2 := hf 2 (by decide)
  simp only [Try.cellsGLeg, Nat.zero_mul, Nat.one_mul, Nat.reduceMul, List.drop_succ_cons, List.drop_zero, List.take_succ_cons, List.take_zero] at h0 h1 h2
  obtain ⟨s0, j0, e0⟩ := fits_gleg h0
  obtain ⟨s1, j1, e1⟩ := fits_gleg h1
  obtain ⟨s2, j2, e2⟩ := fits_gleg h2
  simp only [List.cons.injEq, and_true] at e0 e1 e2
  obtain ⟨rfl, rfl⟩ := e0
  obtain ⟨rfl, rfl⟩ := e1
  obtain ⟨rfl, rfl⟩ := e2
  exact ⟨p3 ⟨s0, j0⟩ ⟨s1, j1⟩ ⟨s2, j2⟩, rfl⟩
theorem fits_legs {cs : List Value} (h : Fits enc Try.prog w 51 cs) : ∃ f o : Nat → Int, cs = (cellsP f o).toList := by
  obtain ⟨hl, hf⟩ := h.array Try.underlying51
  rw [Try.cellsLegs] at hl
  obtain ⟨a, b, c, d, e, f, rfl⟩ := six_of hl
  have h0 := hf 0 (by decide)
  have h1 := hf 1 (by decide)
  have h2 := hf 2 (by decide)
  simp only [Try.cellsLeg, Nat.zero_mul, Nat.one_mul, Nat.reduceMul, List.drop_succ_cons, List.drop_zero, List.take_succ_cons, List.take_zero] at h0 h1 h2
  obtain ⟨s0, j0, e0⟩ := fits_leg h0
  obtain ⟨s1, j1, e1⟩ := fits_leg h1
  obtain ⟨s2, j2, e2⟩ := fits_leg h2
  simp only [List.cons.injEq, and_true] at e0 e1 e2
  obtain ⟨rfl, rfl⟩ := e0
  obtain ⟨rfl, rfl⟩ := e1
  obtain ⟨rfl, rfl⟩ := e2
  exact ⟨p3 s0 s1 s2, p3 j0 j1 j2, rfl⟩
/-- The cells of what Run is asked for. -/
def cellsD (f o : Nat → Int) (per dead trip : Int) : Array Value := #[.int .i64 (f 0), .int .i64 (o 0), .int .i64 (f 1), .int .i64 (o 1), .int .i64 (f 2), .int .i64 (o 2), .int .i64 per, .int .i64 dead, .int .i64 trip]
theorem fits_drive {cs : List Value} (h : Fits enc Try.prog w 53 cs) : ∃ (f o : Nat → Int) (per dead trip : Int), cs = (cellsD f o per dead trip).toList := by
  obtain ⟨hl, hf⟩ := h.struct Try.underlying53
  rw [Try.cellsDrive] at hl
  obtain ⟨a, b, c, d, e, f, g, i, j, rfl⟩ := list9 hl
  have h0 : Fits enc Try.prog w 51 (([a, b, c, d, e, f, g, i, j].drop 0).take (Try.prog.cellsOf 51)) := hf 0 _ rfl
  have h1 : Fits enc Try.prog w 3 (([a, b, c, d, e, f, g, i, j].drop 6).take (Try.prog.cellsOf 3)) := hf 1 _ rfl
  have h2 : Fits enc Try.prog w 3 (([a, b, c, d, e, f, g, i, j].drop 7).take (Try.prog.cellsOf 3)) := hf 2 _ rfl
  have h3 : Fits enc Try.prog w 3 (([a, b, c, d, e, f, g, i, j].drop 8).take (Try.prog.cellsOf 3)) := hf 3 _ rfl
  simp only [Try.cellsInt, Try.cellsLegs, List.drop_succ_cons, List.drop_zero, List.take_succ_cons, List.take_zero] at h0 h1 h2 h3
  obtain ⟨f', o', e0⟩ := fits_legs h0
  obtain ⟨per, e1, _⟩ := fits_int h1
  obtain ⟨dead, e2, _⟩ := fits_int h2
  obtain ⟨trip, e3, _⟩ := fits_int h3
  simp only [List.cons.injEq, and_true] at e1 e2 e3
  subst e1 e2 e3
  refine ⟨f', o', per, dead, trip, ?_⟩
  exact congrArg (fun l => l ++ [Value.int .i64 per, .int .i64 dead, .int .i64 trip]) e0
set_option maxRecDepth 100000 in
theorem open_legs {r : Reach} {base : Nat} {v : Value} {d : DataW H} {p : List MemPlace} (hv : Value.okWide Try.prog w r base 48 v) (h : DataW.Trod enc Try.prog w 0 (fun _ => true) true 48 v d p) :
    ∃ x : Nat → Lg, v = .agg (cellsL x) := by
  obtain ⟨cs, rfl, _⟩ := okWide_array Try.underlying48 hv
  obtain ⟨x, hcs⟩ := fits_glegs (Fits.of h)
  exact ⟨x, (agg_of hcs).trans rfl⟩
set_option maxRecDepth 100000 in
theorem open_drive {r : Reach} {base : Nat} {v : Value} {d : DataW H} {p : List MemPlace} (hv : Value.okWide Try.prog w r base 53 v) (h : DataW.Trod enc Try.prog w 0 (fun _ => true) true 53 v d p) :
    ∃ (f o : Nat → Int) (per dead trip : Int), v = .agg (cellsD f o per dead trip) := by
  obtain ⟨cs, rfl, _⟩ := okWide_struct Try.underlying53 hv
  obtain ⟨f, o, per, dead, trip, hcs⟩ := fits_drive (Fits.of h)
  exact ⟨f, o, per, dead, trip, (agg_of hcs).trans rfl⟩
end

end Go.Proofs.Ytgnojdiecgfeaaa
