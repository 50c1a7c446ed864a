/- A row of nine cells of a list. -/
import Derived.Test.YtgnojdiecgfeaaaWords
namespace Go.Proofs.Ytgnojdiecgfeaaa

theorem Sl.nine {w : World} {B : Nat} {A : Option Addr} {rs : List (List Value)} {k : Nat} {x0 x1 x2 x3 x4 x5 x6 x7 x8 : Value} (h : Sl w B 9 A rs) (hk : rs[k]? = some [x0, x1, x2, x3, x4, x5, x6, x7, x8]) :
    ∃ ad p, A = some ad ∧ ad.add (k * 9) = p ∧ p.block < B ∧ w.cell? p = some x0 ∧ w.cell? ⟨p.block, p.off + 1, none⟩ = some x1 ∧ w.cell? ⟨p.block, p.off + 2, none⟩ = some x2 ∧ w.cell? ⟨p.block, p.off + 3, none⟩ = some x3 ∧ w.cell? ⟨p.block, p.off + 4, none⟩ = some x4 ∧ w.cell? ⟨p.block, p.off + 5, none⟩ = some x5 ∧ w.cell? ⟨p.block, p.off + 6, none⟩ = some x6 ∧ w.cell? ⟨p.block, p.off + 7, none⟩ = some x7 ∧ w.cell? ⟨p.block, p.off + 8, none⟩ = some x8 := by
  obtain ⟨ad, rfl, hb, hc⟩ := h.cell0 hk rfl
  exact ⟨ad, _, rfl, rfl, by rw [block_of_add]; exact hb, hc, h.cellS (j := 0) hk rfl, h.cellS (j := 1) hk rfl, h.cellS (j := 2) hk rfl, h.cellS (j := 3) hk rfl, h.cellS (j := 4) hk rfl, h.cellS (j := 5) hk rfl, h.cellS (j := 6) hk rfl, h.cellS (j := 7) hk rfl⟩

end Go.Proofs.Ytgnojdiecgfeaaa
