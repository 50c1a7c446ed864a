/- Blocks that are made at the begin of a call: worlds by name. -/
import Derived.Test.YtpfkiohknpeifaaGreatReg
import Derived.Test.YtpfkiohknpeifaaGreatWords
import Derived.Test.YtpfkiohknpeifaaGreatMcC
namespace Go.Proofs.YtpfkiohknpeifaaGreat
open Go.RowKit
theorem box (w : World) (c : Array Value) (t : TypeId) {g B : Nat} {w0 : World} (hg : w.heap.size = g) (hb : Below B w0 w) (hB : B ≤ g) : ∃ W, w.alloc (.cells c t) = W ∧ W.heap.size = g + 1 ∧ Blk W g t c ∧ Below B w0 W :=
  ⟨_, rfl, by simp [hg], Blk.new' hg.symm, hb.alloc (by omega) _⟩
theorem Blk.al {w W : World} {g : Nat} {t : TypeId} {c : Array Value} {o : Obj} (h : Blk w g t c) (e : w.alloc o = W) : Blk W g t c := e ▸ h.alloc o
theorem qs {P : Program} {f : FuncId} {args : Array Value} {w : World} {v : Value} (h : Calls P f args w fun e w' => e = .returned v ∧ w = w') : Calls P f args w fun e w' => e = .returned v ∧ w' = w := h.mono fun _ _ ⟨he, hw⟩ => ⟨he, hw.symm⟩
theorem drewX (w : World) : ∃ W, w.drew = W ∧ W.heap.size = w.heap.size := ⟨_, rfl, rfl⟩
section
variable {w : World} {g : Nat} {t : TypeId} {x0 x1 x2 x3 x4 x5 x6 x7 : Value}
/-- Eight cells written anew. -/
theorem Blk.fill8 (h : Blk w g t #[x0, x1, x2, x3, x4, x5, x6, x7]) (y0 y1 y2 y3 y4 y5 y6 y7 : Value) : Blk ((((((((w.setCell ⟨g, 0, none⟩ y0).setCell ⟨g, 1, none⟩ y1).setCell ⟨g, 2, none⟩ y2).setCell ⟨g, 3, none⟩ y3).setCell ⟨g, 4, none⟩ y4).setCell ⟨g, 5, none⟩ y5).setCell ⟨g, 6, none⟩ y6).setCell ⟨g, 7, none⟩ y7) g t #[y0, y1, y2, y3, y4, y5, y6, y7] := by
  have h0 : Blk _ g t #[y0, x1, x2, x3, x4, x5, x6, x7] := h.set_ 0 y0
  have h1 : Blk _ g t #[y0, y1, x2, x3, x4, x5, x6, x7] := h0.set_ 1 y1
  have h2 : Blk _ g t #[y0, y1, y2, x3, x4, x5, x6, x7] := h1.set_ 2 y2
  have h3 : Blk _ g t #[y0, y1, y2, y3, x4, x5, x6, x7] := h2.set_ 3 y3
  have h4 : Blk _ g t #[y0, y1, y2, y3, y4, x5, x6, x7] := h3.set_ 4 y4
  have h5 : Blk _ g t #[y0, y1, y2, y3, y4, y5, x6, x7] := h4.set_ 5 y5
  have h6 : Blk _ g t #[y0, y1, y2, y3, y4, y5, y6, x7] := h5.set_ 6 y6
  exact h6.set_ 7 y7
theorem below_fill8 {B : Nat} {w0 : World} (h : Below B w0 w) (hg : B ≤ g) (y0 y1 y2 y3 y4 y5 y6 y7 : Value) : Below B w0 ((((((((w.setCell ⟨g, 0, none⟩ y0).setCell ⟨g, 1, none⟩ y1).setCell ⟨g, 2, none⟩ y2).setCell ⟨g, 3, none⟩ y3).setCell ⟨g, 4, none⟩ y4).setCell ⟨g, 5, none⟩ y5).setCell ⟨g, 6, none⟩ y6).setCell ⟨g, 7, none⟩ y7) :=
  (((((((h.setCell hg _).setCell hg _).setCell hg _).setCell hg _).setCell hg _).setCell hg _).setCell hg _).setCell hg _
end
theorem Sl.far1 {w : World} {B size : Nat} {A : Option Addr} {rs : List (List Value)} (h : Sl w B size A rs) {p : Addr} (hp : ∀ ad, A = some ad → ad.block ≠ p.block) (u : Value) : Sl (w.setCell p u) B size A rs :=
  ⟨h.len, fun hn => by
    obtain ⟨ad, e, hb, hc⟩ := h.at_ hn
    exact ⟨ad, e, hb, fun k r hr j u' hu => by
      rw [World.cell?_setCell_other (h := fun h => by have := hp ad e; rw [h, block_of_add] at this; exact this rfl)]
      exact hc k r hr j u' hu⟩⟩
theorem Sl.fill8 {w : World} {B size : Nat} {A : Option Addr} {rs : List (List Value)} (h : Sl w B size A rs) {g : Nat} (hp : ∀ ad, A = some ad → ad.block ≠ g) (y0 y1 y2 y3 y4 y5 y6 y7 : Value) :
    Sl ((((((((w.setCell ⟨g, 0, none⟩ y0).setCell ⟨g, 1, none⟩ y1).setCell ⟨g, 2, none⟩ y2).setCell ⟨g, 3, none⟩ y3).setCell ⟨g, 4, none⟩ y4).setCell ⟨g, 5, none⟩ y5).setCell ⟨g, 6, none⟩ y6).setCell ⟨g, 7, none⟩ y7) B size A rs :=
  (((((((h.far1 hp _).far1 hp _).far1 hp _).far1 hp _).far1 hp _).far1 hp _).far1 hp _).far1 hp _
/-- Blocks that lie in memory: address, type, cells. -/
structure Hold (w0 w : World) (l : List (Nat × TypeId × Array Value)) : Prop where
  all : ∀ b ∈ l, Blk w b.1 b.2.1 b.2.2
  b : Below w0.heap.size w0 w
section
variable {w0 w w' : World} {l : List (Nat × TypeId × Array Value)}
theorem Hold.below (hb : Below w.heap.size w w') (h : Hold w0 w l) : Hold w0 w' l := ⟨fun x hx => (h.all x hx).below hb (h.all x hx).lt, h.b.trans (hb.mono h.b.size)⟩
theorem Hold.drew (h : Hold w0 w l) : Hold w0 w.drew l := ⟨fun x hx => (h.all x hx).drew, h.b.drew⟩
theorem Hold.alloc (h : Hold w0 w l) (o : Obj) : Hold w0 (w.alloc o) l := ⟨fun x hx => (h.all x hx).alloc o, h.b.alloc h.b.size o⟩
theorem Hold.one {Q : Prop} (h : Hold w0 w l ∧ Q) : Hold w0 w l := h.1
theorem Hold.at_ (h : Hold w0 w l) (i : Nat) {g : Nat} {t : TypeId} {c : Array Value} (e : l[i]? = some (g, t, c)) : Blk w g t c := h.all (g, t, c) (List.mem_of_getElem? e)
theorem Hold.nil (h : Below w0.heap.size w0 w) : Hold w0 w [] := ⟨fun _ hx => (by cases hx), h⟩
theorem Hold.cons (h : Hold w0 w l) {g : Nat} {t : TypeId} {c : Array Value} (hb : Blk w g t c) : Hold w0 w ((g, t, c) :: l) := ⟨fun x hx => by
    rcases List.mem_cons.1 hx with rfl | hx
    · exact hb
    · exact h.all x hx, h.b⟩
end
end Go.Proofs.YtpfkiohknpeifaaGreat
