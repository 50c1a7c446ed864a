/- Words for memory: slices of structs that read as lists of rows; small facts on worlds. No program in sight. -/
import Derived.WalkKit
import Derived.WalkSpells
import Derived.WalkLawsBesides
import Derived.Lib.Hide
import Derived.Deep.QuietTactic
import Derived.BigQuiet
namespace Go.Proofs.YtnoihjjenceeaaaDoor
open Go.RowKit

theorem block_of_add (a : Addr) (n : Nat) : (a.add n).block = a.block := by unfold Addr.add; split <;> rfl
theorem add_of_add (a : Addr) (i j : Nat) : (a.add i).add j = a.add (i + j) := by
  unfold Addr.add
  by_cases hi : i = 0 <;> by_cases hj : j = 0 <;> simp [hi, hj, Nat.add_assoc]

/-- The slice at A reads as the rows rs, each of 'size' cells; it lies below block B. -/
structure Sl (w : World) (B size : Nat) (A : Option Addr) (rs : List (List Value)) : Prop where
  len : ∀ r ∈ rs, r.length = size
  at_ : 0 < rs.length → ∃ ad, A = some ad ∧ ad.block < B ∧ ∀ k r, rs[k]? = some r → ∀ j u, r[j]? = some u → w.cell? (ad.add (k * size + j)) = some u

section
variable {w w' : World} {B B' size : Nat} {A : Option Addr} {rs : List (List Value)}
theorem Sl.row {k : Nat} (h : Sl w B size A rs) (hk : k < rs.length) :
    ∃ ad, A = some ad ∧ ad.block < B ∧ ∀ j u, rs[k][j]? = some u → w.cell? (ad.add (k * size + j)) = some u := by
  obtain ⟨ad, e, hb, hc⟩ := h.at_ (by omega)
  exact ⟨ad, e, hb, fun j u hu => hc k _ (List.getElem?_eq_getElem hk) j u hu⟩
theorem Sl.keep (h : Sl w B size A rs) (hk : ∀ p : Addr, p.block < B → w'.cell? p = w.cell? p) : Sl w' B size A rs :=
  ⟨h.len, fun hn => by
    obtain ⟨ad, e, hb, hc⟩ := h.at_ hn
    exact ⟨ad, e, hb, fun k r hr j u hu => (hk _ (by rw [block_of_add]; exact hb)).trans (hc k r hr j u hu)⟩⟩
theorem Sl.more (h : Sl w B size A rs) (hB : B ≤ B') : Sl w B' size A rs :=
  ⟨h.len, fun hn => by
    obtain ⟨ad, e, hb, hc⟩ := h.at_ hn
    exact ⟨ad, e, by omega, hc⟩⟩
theorem Sl.below (h : Sl w B size A rs) (hb : Below B w w') : Sl w' B size A rs := h.keep fun _ hp => hb.cell hp
theorem Sl.grown {row : Option Nat} (h : Sl w B size A rs) (hg : w.grownBy w' row) (hB : B ≤ w.heap.size) (hr : ∀ ad, A = some ad → some ad.block ≠ row) : Sl w' B size A rs :=
  ⟨h.len, fun hn => by
    obtain ⟨ad, e, hb, hc⟩ := h.at_ hn
    exact ⟨ad, e, hb, fun k r hr' j u hu => (World.cell?_of_block (hg.block _ (by rw [block_of_add]; omega) (by rw [block_of_add]; exact hr ad e))).trans (hc k r hr' j u hu)⟩⟩
theorem Sl.alloc (h : Sl w B size A rs) (hB : B ≤ w.heap.size) (o : Obj) : Sl (w.alloc o) B size A rs := h.keep fun p hp => World.cell?_alloc_lt w o p (by omega)
theorem Sl.cell0 {k : Nat} {r : List Value} {u : Value} (h : Sl w B size A rs) (hk : rs[k]? = some r) (hu : r[0]? = some u) :
    ∃ ad, A = some ad ∧ ad.block < B ∧ w.cell? (ad.add (k * size)) = some u := by
  obtain ⟨ad, e, hb, hc⟩ := h.at_ (by have := (List.getElem?_eq_some_iff.1 hk).1; omega)
  exact ⟨ad, e, hb, hc k r hk 0 u hu⟩
theorem Sl.cellS {k j : Nat} {r : List Value} {u : Value} {ad : Addr} (h : Sl w B size (some ad) rs) (hk : rs[k]? = some r) (hu : r[j + 1]? = some u) :
    w.cell? ⟨(ad.add (k * size)).block, (ad.add (k * size)).off + (j + 1), none⟩ = some u := by
  obtain ⟨ad', e, hb, hc⟩ := h.at_ (by have := (List.getElem?_eq_some_iff.1 hk).1; omega)
  injection e with e
  subst e
  have := hc k r hk (j + 1) u hu
  rw [← add_of_add] at this
  exact this
theorem Sl.three {k : Nat} {x y z : Value} (h : Sl w B 3 A rs) (hk : rs[k]? = some [x, y, z]) :
    ∃ ad p, A = some ad ∧ ad.add (k * 3) = p ∧ p.block < B ∧ w.cell? p = some x ∧ w.cell? ⟨p.block, p.off + 1, none⟩ = some y ∧ w.cell? ⟨p.block, p.off + 2, none⟩ = some z := by
  obtain ⟨ad, rfl, hb, hc⟩ := h.cell0 hk rfl
  exact ⟨ad, _, rfl, rfl, by rw [block_of_add]; exact hb, hc, h.cellS (j := 0) hk rfl, h.cellS (j := 1) hk rfl⟩
theorem Sl.two {k : Nat} {x0 x1 : Value} (h : Sl w B 2 A rs) (hk : rs[k]? = some [x0, x1]) :
    ∃ ad p, A = some ad ∧ ad.add (k * 2) = p ∧ p.block < B ∧ w.cell? p = some x0 ∧ w.cell? ⟨p.block, p.off + 1, none⟩ = some x1 := by
  obtain ⟨ad, rfl, hb, hc⟩ := h.cell0 hk rfl
  exact ⟨ad, _, rfl, rfl, by rw [block_of_add]; exact hb, hc, h.cellS (j := 0) hk rfl⟩
theorem Sl.six {k : Nat} {x0 x1 x2 x3 x4 x5 : Value} (h : Sl w B 6 A rs) (hk : rs[k]? = some [x0, x1, x2, x3, x4, x5]) :
    ∃ ad p, A = some ad ∧ ad.add (k * 6) = p ∧ p.block < B ∧ w.cell? p = some x0 ∧ w.cell? ⟨p.block, p.off + 1, none⟩ = some x1 ∧ w.cell? ⟨p.block, p.off + 2, none⟩ = some x2 ∧ w.cell? ⟨p.block, p.off + 3, none⟩ = some x3 ∧ w.cell? ⟨p.block, p.off + 4, none⟩ = some x4 ∧ w.cell? ⟨p.block, p.off + 5, none⟩ = some x5 := by
  obtain ⟨ad, rfl, hb, hc⟩ := h.cell0 hk rfl
  exact ⟨ad, _, rfl, rfl, by rw [block_of_add]; exact hb, hc, h.cellS (j := 0) hk rfl, h.cellS (j := 1) hk rfl, h.cellS (j := 2) hk rfl, h.cellS (j := 3) hk rfl, h.cellS (j := 4) hk rfl⟩
theorem Sl.seven {k : Nat} {x0 x1 x2 x3 x4 x5 x6 : Value} (h : Sl w B 7 A rs) (hk : rs[k]? = some [x0, x1, x2, x3, x4, x5, x6]) :
    ∃ ad p, A = some ad ∧ ad.add (k * 7) = p ∧ p.block < B ∧ w.cell? p = some x0 ∧ w.cell? ⟨p.block, p.off + 1, none⟩ = some x1 ∧ w.cell? ⟨p.block, p.off + 2, none⟩ = some x2 ∧ w.cell? ⟨p.block, p.off + 3, none⟩ = some x3 ∧ w.cell? ⟨p.block, p.off + 4, none⟩ = some x4 ∧ w.cell? ⟨p.block, p.off + 5, none⟩ = some x5 ∧ w.cell? ⟨p.block, p.off + 6, none⟩ = some x6 := by
  obtain ⟨ad, rfl, hb, hc⟩ := h.cell0 hk rfl
  exact ⟨ad, _, rfl, rfl, by rw [block_of_add]; exact hb, hc, h.cellS (j := 0) hk rfl, h.cellS (j := 1) hk rfl, h.cellS (j := 2) hk rfl, h.cellS (j := 3) hk rfl, h.cellS (j := 4) hk rfl, h.cellS (j := 5) hk rfl⟩
theorem Sl.nil (w : World) (B size : Nat) (A : Option Addr) : Sl w B size A [] := ⟨by simp, fun h => by simp at h⟩
theorem flat_get (size : Nat) : ∀ (rs : List (List Value)), (∀ r ∈ rs, r.length = size) → ∀ (k : Nat) (r : List Value), rs[k]? = some r → ∀ (j : Nat) (u : Value), r[j]? = some u → rs.flatten[k * size + j]? = some u := by
  intro rs
  induction rs with
  | nil => intro _ k r h; simp at h
  | cons x rs ih =>
    intro hl k r hr j u hu
    have hx : x.length = size := hl x (by simp)
    rw [List.flatten_cons]
    match k with
    | 0 =>
      simp only [List.getElem?_cons_zero, Option.some.injEq] at hr
      subst hr
      rw [Nat.zero_mul, Nat.zero_add, List.getElem?_append_left]
      · exact hu
      · exact (List.getElem?_eq_some_iff.1 hu).1
    | k + 1 =>
      rw [List.getElem?_append_right (by rw [hx, Nat.add_mul, Nat.one_mul]; omega)]
      have : (k + 1) * size + j - x.length = k * size + j := by rw [hx, Nat.add_mul, Nat.one_mul]; omega
      rw [this]
      exact ih (fun y hy => hl y (by simp [hy])) k r (by simpa using hr) j u hu
theorem flat_len (size : Nat) : ∀ (rs : List (List Value)), (∀ r ∈ rs, r.length = size) → rs.flatten.length = rs.length * size := by
  intro rs
  induction rs with
  | nil => intro _; simp
  | cons x rs ih =>
    intro hl
    rw [List.flatten_cons, List.length_append, ih (fun y hy => hl y (by simp [hy])), hl x (by simp), List.length_cons, Nat.add_mul, Nat.one_mul, Nat.add_comm]
/-- A row of the call's own reads as its rows. -/
theorem Sl.of_own {base : Nat} {e : TypeId} {v : Value} {n : Nat} (h : w.ownsRow base e size v n rs.flatten) (hl : ∀ r ∈ rs, r.length = size) (hn : n = rs.length) :
    ∃ A c, v = .slice A n c ∧ Sl w w.heap.size size A rs ∧ ∀ ad, A = some ad → base ≤ ad.block := by
  rcases h.2 with ⟨rfl, rfl⟩ | ⟨g, cap, cur, rfl, hg, hh, _, _, _, _⟩
  · refine ⟨none, 0, rfl, ⟨hl, fun h0 => by omega⟩, fun ad h => by cases h⟩
  · refine ⟨some ⟨g, 0, none⟩, cap, rfl, ⟨hl, fun _ => ⟨_, rfl, (Array.getElem?_eq_some_iff.1 hh).1, fun k r hr j u hu => ?_⟩⟩, fun ad h => by injection h with h; subst h; exact hg⟩
    exact h.cells (g := g) rfl _ u (flat_get size rs hl k r hr j u hu)
end

/-- A new block's cells, and that they may be written, in a world of which only 'Below' is known. -/
theorem cell_below {w w1 : World} {B b o : Nat} {v : Value} (hb : Below B w w1) (h : w.cell? ⟨b, o, none⟩ = some v) (hl : b < B) : w1.cell? ⟨b, o, none⟩ = some v :=
  (hb.cell (p := ⟨b, o, none⟩) hl).trans h
theorem free_below {w w1 : World} {B b o : Nat} (hb : Below B w w1) (h : w.frozen? ⟨b, o, none⟩ = false) (hl : b < B) : w1.frozen? ⟨b, o, none⟩ = false :=
  (hb.frozen (p := ⟨b, o, none⟩) hl).trans h

/-- Block g is just the cells cs of element type t, none frozen. -/
def Blk (w : World) (g : Nat) (t : TypeId) (cs : Array Value) : Prop := w.heap[g]? = some (.cells cs t (0, 0))
section
variable {w w' : World} {g : Nat} {t : TypeId} {cs : Array Value}
theorem Blk.lt (h : Blk w g t cs) : g < w.heap.size := by
  rcases Nat.lt_or_ge g w.heap.size with hlt | hge
  · exact hlt
  · unfold Blk at h; rw [Array.getElem?_eq_none hge] at h; cases h
theorem Blk.cell (h : Blk w g t cs) (i : Nat) : w.cell? ⟨g, i, none⟩ = cs[i]? := cell_of_row w g i cs t (0, 0) h
theorem Blk.frozen (h : Blk w g t cs) (i : Nat) : w.frozen? ⟨g, i, none⟩ = false := by
  unfold Blk at h
  simp [World.frozen?, h]
theorem Blk.new (w : World) (t : TypeId) (cs : Array Value) : Blk (w.alloc (.cells cs t)) w.heap.size t cs := heap_alloc_new w _
theorem Blk.new' {w : World} {t : TypeId} {cs : Array Value} {g : Nat} (hg : g = w.heap.size) : Blk (w.alloc (.cells cs t)) g t cs := by subst hg; exact Blk.new w t cs
theorem Blk.drew (h : Blk w g t cs) : Blk w.drew g t cs := h
theorem Blk.drewN (h : Blk w g t cs) (n : Nat) : Blk (w.drewN n) g t cs := h
theorem Blk.alloc (h : Blk w g t cs) (o : Obj) : Blk (w.alloc o) g t cs := (Below.heap_alloc w o g h.lt).trans h
theorem Blk.set_ (h : Blk w g t cs) (i : Nat) (u : Value) : Blk (w.setCell ⟨g, i, none⟩ u) g t (cs.setIfInBounds i u) := by
  unfold Blk at h ⊢
  simp [World.setCell, Array.getElem?_modify, h]
theorem Blk.far (h : Blk w g t cs) {p : Addr} (hp : g ≠ p.block) (u : Value) : Blk (w.setCell p u) g t cs := (Below.heap_setCell w p u g hp).trans h
theorem Blk.c1 {v0 : Value} (h : Blk w g t #[v0]) : w.cell? ⟨g, 0, none⟩ = some v0 := h.cell 0
theorem Blk.c2 {v0 v1 : Value} (h : Blk w g t #[v0, v1]) : w.cell? ⟨g, 0, none⟩ = some v0 ∧ w.cell? ⟨g, 1, none⟩ = some v1 := ⟨h.cell 0, h.cell 1⟩
theorem Blk.c3 {v0 v1 v2 : Value} (h : Blk w g t #[v0, v1, v2]) : w.cell? ⟨g, 0, none⟩ = some v0 ∧ w.cell? ⟨g, 1, none⟩ = some v1 ∧ w.cell? ⟨g, 2, none⟩ = some v2 := ⟨h.cell 0, h.cell 1, h.cell 2⟩
theorem Blk.c4 {v0 v1 v2 v3 : Value} (h : Blk w g t #[v0, v1, v2, v3]) : w.cell? ⟨g, 0, none⟩ = some v0 ∧ w.cell? ⟨g, 1, none⟩ = some v1 ∧ w.cell? ⟨g, 2, none⟩ = some v2 ∧ w.cell? ⟨g, 3, none⟩ = some v3 := ⟨h.cell 0, h.cell 1, h.cell 2, h.cell 3⟩
theorem Blk.c6 {v0 v1 v2 v3 v4 v5 : Value} (h : Blk w g t #[v0, v1, v2, v3, v4, v5]) : w.cell? ⟨g, 0, none⟩ = some v0 ∧ w.cell? ⟨g, 1, none⟩ = some v1 ∧ w.cell? ⟨g, 2, none⟩ = some v2 ∧ w.cell? ⟨g, 3, none⟩ = some v3 ∧ w.cell? ⟨g, 4, none⟩ = some v4 ∧ w.cell? ⟨g, 5, none⟩ = some v5 := ⟨h.cell 0, h.cell 1, h.cell 2, h.cell 3, h.cell 4, h.cell 5⟩
theorem Blk.c7 {v0 v1 v2 v3 v4 v5 v6 : Value} (h : Blk w g t #[v0, v1, v2, v3, v4, v5, v6]) : w.cell? ⟨g, 0, none⟩ = some v0 ∧ w.cell? ⟨g, 1, none⟩ = some v1 ∧ w.cell? ⟨g, 2, none⟩ = some v2 ∧ w.cell? ⟨g, 3, none⟩ = some v3 ∧ w.cell? ⟨g, 4, none⟩ = some v4 ∧ w.cell? ⟨g, 5, none⟩ = some v5 ∧ w.cell? ⟨g, 6, none⟩ = some v6 := ⟨h.cell 0, h.cell 1, h.cell 2, h.cell 3, h.cell 4, h.cell 5, h.cell 6⟩
theorem Blk.c8 {v0 v1 v2 v3 v4 v5 v6 v7 : Value} (h : Blk w g t #[v0, v1, v2, v3, v4, v5, v6, v7]) : w.cell? ⟨g, 0, none⟩ = some v0 ∧ w.cell? ⟨g, 1, none⟩ = some v1 ∧ w.cell? ⟨g, 2, none⟩ = some v2 ∧ w.cell? ⟨g, 3, none⟩ = some v3 ∧ w.cell? ⟨g, 4, none⟩ = some v4 ∧ w.cell? ⟨g, 5, none⟩ = some v5 ∧ w.cell? ⟨g, 6, none⟩ = some v6 ∧ w.cell? ⟨g, 7, none⟩ = some v7 := ⟨h.cell 0, h.cell 1, h.cell 2, h.cell 3, h.cell 4, h.cell 5, h.cell 6, h.cell 7⟩
theorem Blk.c9 {v0 v1 v2 v3 v4 v5 v6 v7 v8 : Value} (h : Blk w g t #[v0, v1, v2, v3, v4, v5, v6, v7, v8]) : w.cell? ⟨g, 0, none⟩ = some v0 ∧ w.cell? ⟨g, 1, none⟩ = some v1 ∧ w.cell? ⟨g, 2, none⟩ = some v2 ∧ w.cell? ⟨g, 3, none⟩ = some v3 ∧ w.cell? ⟨g, 4, none⟩ = some v4 ∧ w.cell? ⟨g, 5, none⟩ = some v5 ∧ w.cell? ⟨g, 6, none⟩ = some v6 ∧ w.cell? ⟨g, 7, none⟩ = some v7 ∧ w.cell? ⟨g, 8, none⟩ = some v8 := ⟨h.cell 0, h.cell 1, h.cell 2, h.cell 3, h.cell 4, h.cell 5, h.cell 6, h.cell 7, h.cell 8⟩
theorem Blk.below {B : Nat} (h : Blk w g t cs) (hb : Below B w w') (hg : g < B) : Blk w' g t cs := (hb.block g hg).trans h
theorem Blk.grown {row : Option Nat} (h : Blk w g t cs) (hb : w.grownBy w' row) (hg : some g ≠ row) : Blk w' g t cs := (hb.block g h.lt hg).trans h
theorem Blk.ne_ {g' : Nat} {t' : TypeId} {cs' : Array Value} (h : Blk w g t cs) (h' : Blk w g' t' cs') (hne : t ≠ t') : g ≠ g' := by
  rintro rfl
  unfold Blk at h h'
  rw [h] at h'
  injection h' with h'
  injection h' with _ ht
  exact hne ht
theorem own_blk_ne {base : Nat} {e : TypeId} {size n : Nat} {v : Value} {xs : List Value} (h : w.ownsRow base e size v n xs) (hg : Blk w g t cs) (hne : e ≠ t) : v.ownBlock ≠ some g := by
  rcases h.2 with ⟨rfl, _⟩ | ⟨g', cap, cur, rfl, _, hh, _⟩
  · simp [Value.ownBlock]
  · intro he
    have : g' = g := by simpa [Value.ownBlock] using he
    subst this
    exact Blk.ne_ (t := e) hh hg hne rfl
end
/-- The cells of a block that has just been laid. -/
theorem news_alloc (W : World) (cs : List Value) (e : TypeId) (g : Nat) (hg : g = W.heap.size) : ∀ j u, cs[j]? = some u → (W.alloc (.cells cs.toArray e)).cell? ((⟨g, 0, none⟩ : Addr).add j) = some u := by
  intro j u hj
  subst hg
  have hadd : (⟨W.heap.size, 0, none⟩ : Addr).add j = ⟨W.heap.size, j, none⟩ := by unfold Addr.add; split <;> simp_all
  rw [hadd, (Blk.new W e cs.toArray).cell j]
  simpa using hj
/-- What append may have written is one of the call's own rows. -/
theorem own_ge {w : World} {base : Nat} {e : TypeId} {size n : Nat} {v : Value} {xs : List Value} (h : w.ownsRow base e size v n xs) : ∀ k, v.ownBlock = some k → base ≤ k := fun k hk => (h.lt k hk).1
theorem own_ne {w : World} {base : Nat} {e : TypeId} {size n : Nat} {v : Value} {xs : List Value} (h : w.ownsRow base e size v n xs) {g : Nat} (hg : g < base ∨ w.heap.size ≤ g) : some g ≠ v.ownBlock := by
  intro e1
  have := h.lt g e1.symm
  omega
theorem _root_.Go.World.ownsRow.rebase {w : World} {base base' : Nat} {e : TypeId} {size n : Nat} {v : Value} {xs : List Value} (h : w.ownsRow base e size v n xs) (hb : base' ≤ base) : w.ownsRow base' e size v n xs := by
  refine ⟨h.1, ?_⟩
  rcases h.2 with h2 | ⟨g, cap, cur, hv, hg, r⟩
  · exact .inl h2
  · exact .inr ⟨g, cap, cur, hv, by omega, r⟩
theorem six_of {α : Type} {l : List α} (h : l.length = 6) : ∃ a b c d e f, l = [a, b, c, d, e, f] := by
  match l, h with
  | [a, b, c, d, e, f], _ => exact ⟨a, b, c, d, e, f, rfl⟩
theorem grown_drew {a w : World} {row : Option Nat} (h : a.grownBy w row) : a.grownBy w.drew row := ⟨h.os, h.tape, h.output, h.size, h.block⟩
theorem grown_drewN {a w : World} {row : Option Nat} (h : a.grownBy w row) (n : Nat) : a.grownBy (w.drewN n) row := ⟨h.os, h.tape, h.output, h.size, h.block⟩
theorem grown_alloc {a w : World} {row : Option Nat} (h : a.grownBy w row) (o : Obj) : a.grownBy (w.alloc o) row :=
  ⟨h.os, h.tape, h.output, Nat.le_trans h.size (by simp), fun i hi hne => (Below.heap_alloc w o i (Nat.lt_of_lt_of_le hi h.size)).trans (h.block i hi hne)⟩
theorem grown_setCell {a w : World} {g : Nat} (h : a.grownBy w (some g)) {p : Addr} (hp : p.block = g ∨ a.heap.size ≤ p.block) (u : Value) : a.grownBy (w.setCell p u) (some g) :=
  ⟨h.os, h.tape, h.output, by simpa [World.setCell] using h.size, fun i hi hne => (Below.heap_setCell w p u i (by
    rintro rfl
    rcases hp with hp | hp
    · exact hne (by rw [hp])
    · omega)).trans (h.block i hi hne)⟩
theorem below_drewN {B : Nat} {a w : World} (h : Below B a w) (n : Nat) : Below B a (w.drewN n) := ⟨h.os, h.tape, h.output, h.size, h.block⟩

end Go.Proofs.YtnoihjjenceeaaaDoor
