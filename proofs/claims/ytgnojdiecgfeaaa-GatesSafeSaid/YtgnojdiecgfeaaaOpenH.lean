/- Further arguments opened: three marks; a request of layer 27; a list of what Run is asked for. -/
import Derived.Test.YtgnojdiecgfeaaaOpenG
namespace Go.Proofs.Ytgnojdiecgfeaaa
open Go.ChangeShapes Go.WideShapes Go.ChangeAt Go.RowKit

/-- What Run is asked for. -/
structure Dv where
  f : Nat → Int
  o : Nat → Int
  p : Int
  d : Int
  t : Int
def Dv.row (x : Dv) : List Value := (cellsD x.f x.o x.p x.d x.t).toList
section
variable {H : Type} {enc : TypeId × Value → H} {w : World}
theorem Try.cellsBools3 : Try.prog.cellsOf 62 = 3 := by kernel_rfl
theorem Try.cellsRequest : Try.prog.cellsOf 92 = 9 := by kernel_rfl
theorem fits_bools3 {cs : List Value} (h : Fits enc Try.prog w 62 cs) : ∃ b0 b1 b2, cs = [.bool b0, .bool b1, .bool b2] := by
  obtain ⟨hl, hf⟩ := h.array Try.underlying62
  rw [Try.cellsBools3] at hl
  obtain ⟨a, b, c, rfl⟩ := list3 hl
  have h0 := hf 0 (by decide)
  have h1 := hf 1 (by decide)
  have h2 := hf 2 (by decide)
  simp only [Try.cellsBool, Nat.mul_one, List.drop_succ_cons, List.drop_zero, List.take_succ_cons, List.take_zero] at h0 h1 h2
  obtain ⟨b0, e0⟩ := fits_bool h0
  obtain ⟨b1, e1⟩ := fits_bool h1
  obtain ⟨b2, e2⟩ := fits_bool h2
  simp only [List.cons.injEq, and_true] at e0 e1 e2
  subst e0 e1 e2
  exact ⟨b0, b1, b2, rfl⟩
theorem fits_request {cs : List Value} (h : Fits enc Try.prog w 92 cs) : ∃ (f o : Nat → Int) (per dead trip : Int), cs = (cellsD f o per dead trip).toList := by
  obtain ⟨hl, hf⟩ := h.struct Try.underlying92
  rw [Try.cellsRequest] at hl
  obtain ⟨a, b, c, d, e, f, g, i, j, rfl⟩ := list9 hl
  have h0 : Fits enc Try.prog w 51 (([a, b, c, d, e, f, g, i, j].drop 0).take (Try.prog.cellsOf 51)) := hf 0 _ rfl
  have h1 : Fits enc Try.prog w 3 (([a, b, c, d, e, f, g, i, j].drop 6).take (Try.prog.cellsOf 3)) := hf 1 _ rfl
  have h2 : Fits enc Try.prog w 3 (([a, b, c, d, e, f, g, i, j].drop 7).take (Try.prog.cellsOf 3)) := hf 2 _ rfl
  have h3 : Fits enc Try.prog w 3 (([a, b, c, d, e, f, g, i, j].drop 8).take (Try.prog.cellsOf 3)) := hf 3 _ rfl
  simp only [Try.cellsInt, Try.cellsLegs, List.drop_succ_cons, List.drop_zero, List.take_succ_cons, List.take_zero] at h0 h1 h2 h3
  obtain ⟨f', o', e0⟩ := fits_legs h0
  obtain ⟨per, e1, _⟩ := fits_int h1
  obtain ⟨dead, e2, _⟩ := fits_int h2
  obtain ⟨trip, e3, _⟩ := fits_int h3
  simp only [List.cons.injEq, and_true] at e1 e2 e3
  subst e1 e2 e3
  refine ⟨f', o', per, dead, trip, ?_⟩
  exact congrArg (fun l => l ++ [Value.int .i64 per, .int .i64 dead, .int .i64 trip]) e0
set_option maxRecDepth 100000 in
theorem open_bools3 {r : Reach} {base : Nat} {v : Value} {d : DataW H} {p : List MemPlace} (hv : Value.okWide Try.prog w r base 62 v) (h : DataW.Trod enc Try.prog w 0 (fun _ => true) true 62 v d p) :
    ∃ b0 b1 b2, v = .agg #[.bool b0, .bool b1, .bool b2] := by
  obtain ⟨cs, rfl, _⟩ := okWide_array Try.underlying62 hv
  obtain ⟨b0, b1, b2, hcs⟩ := fits_bools3 (Fits.of h)
  exact ⟨b0, b1, b2, agg_of hcs⟩
set_option maxRecDepth 100000 in
theorem open_request {r : Reach} {base : Nat} {v : Value} {d : DataW H} {p : List MemPlace} (hv : Value.okWide Try.prog w r base 92 v) (h : DataW.Trod enc Try.prog w 0 (fun _ => true) true 92 v d p) :
    ∃ (f o : Nat → Int) (per dead trip : Int), v = .agg (cellsD f o per dead trip) := by
  obtain ⟨cs, rfl, _⟩ := okWide_struct Try.underlying92 hv
  obtain ⟨f, o, per, dead, trip, hcs⟩ := fits_request (Fits.of h)
  exact ⟨f, o, per, dead, trip, (agg_of hcs).trans rfl⟩
theorem fits_drives {cs : List Value} (h : Fits enc Try.prog w 64 cs) : ∃ (A : Option Addr) (n c : Nat) (ds : List Dv), cs = [.slice A n c] ∧ n = ds.length ∧ n ≤ maxLen ∧ Sl w w.heap.size 9 A (ds.map Dv.row) ∧ ∀ x ∈ ds, True :=
  h.rows Dv.row (fun _ => True) Try.underlying64 Try.cellsDrive (by decide) (fun r _ hr => by
    obtain ⟨f, o, p, d, t, rfl⟩ := fits_drive hr
    exact ⟨⟨f, o, p, d, t⟩, rfl, trivial⟩)
set_option maxRecDepth 100000 in
theorem open_drives {r : Reach} {base : Nat} {v : Value} {d : DataW H} {p : List MemPlace} (hv : Value.okWide Try.prog w r base 64 v) (h : DataW.Trod enc Try.prog w 0 (fun _ => true) true 64 v d p) :
    ∃ (A : Option Addr) (n c : Nat) (ds : List Dv), v = .slice A n c ∧ n = ds.length ∧ Sl w w.heap.size 9 A (ds.map Dv.row) := by
  obtain ⟨a, len, cap, rfl⟩ := okWide_slice Try.underlying64 hv
  obtain ⟨A, n, c, ds, hcs, hn, _, hS, _⟩ := fits_drives (Fits.one h rfl)
  simp only [List.cons.injEq, and_true] at hcs
  rw [hcs]
  exact ⟨A, n, c, ds, rfl, hn, hS⟩
end

end Go.Proofs.Ytgnojdiecgfeaaa
