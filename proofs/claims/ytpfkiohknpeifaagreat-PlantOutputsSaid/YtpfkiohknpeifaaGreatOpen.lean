/- Arguments opened: what a readable value of a type looks like. -/
import Derived.Test.YtpfkiohknpeifaaGreatMcB
import Derived.ProofKit
import Derived.OpenShut
import Derived.Deep.Slices
import Derived.ChangeOld
namespace Go.Proofs.YtpfkiohknpeifaaGreat
open Go.ChangeShapes Go.WideShapes Go.ChangeAt Go.RowKit

section
variable {H : Type} {enc : TypeId × Value → H} {P : Program} {w : World}
/-- The cells cs can be read as a value of type t. -/
def Fits (enc : TypeId × Value → H) (P : Program) (w : World) (t : TypeId) (cs : List Value) : Prop := ∃ fuel x, DataW.trod enc P w 0 (fun _ => true) true fuel t cs = some x
theorem Fits.int {t : TypeId} {k : IntKind} {cs : List Value} (h : Fits enc P w t cs) (ht : P.underlying t = some (.int k)) : ∃ n, cs = [.int k n] ∧ (Lit.int k n).wf = true := by
  obtain ⟨fuel, x, h⟩ := h
  obtain ⟨n, h1, _, h2⟩ := DataW.trod_int ht h
  exact ⟨n, h1, h2⟩
theorem Fits.bool {t : TypeId} {cs : List Value} (h : Fits enc P w t cs) (ht : P.underlying t = some .bool) : ∃ b, cs = [.bool b] := by
  obtain ⟨fuel, x, h⟩ := h
  obtain ⟨n, h1, _⟩ := DataW.trod_bool ht h
  exact ⟨n, h1⟩
theorem Fits.struct {t : TypeId} {fs : Array Field} {cs : List Value} (h : Fits enc P w t cs) (ht : P.underlying t = some (.struct fs)) :
    cs.length = P.cellsOf t ∧ ∀ (i : Nat) (f : Field), fs[i]? = some f → Fits enc P w f.type ((cs.drop f.offset).take (P.cellsOf f.type)) := by
  obtain ⟨fuel, x, h⟩ := h
  obtain ⟨xs, n, _, _, hl, hx, hf⟩ := DataW.trod_struct ht h
  refine ⟨hl, fun i f hi => ?_⟩
  have h1 := hf i f hi
  have hi' : i < xs.length := by rw [hx]; exact (Array.getElem?_eq_some_iff.1 hi).1
  rw [List.getElem?_eq_getElem hi'] at h1
  exact ⟨n, _, h1⟩
theorem Fits.array {t e : TypeId} {n : Nat} {cs : List Value} (h : Fits enc P w t cs) (ht : P.underlying t = some (.array n e)) :
    cs.length = P.cellsOf t ∧ ∀ i, i < n → Fits enc P w e ((cs.drop (i * P.cellsOf e)).take (P.cellsOf e)) := by
  obtain ⟨fuel, x, h⟩ := h
  obtain ⟨xs, m, _, _, hl, hx, hf⟩ := DataW.trod_array ht h
  refine ⟨hl, fun i hi => ?_⟩
  have h1 := hf i hi
  rw [List.getElem?_eq_getElem (by omega)] at h1
  exact ⟨m, _, h1⟩
theorem Fits.slice {t e : TypeId} {cs : List Value} (h : Fits enc P w t cs) (ht : P.underlying t = some (.slice e)) :
    cs = [.slice none 0 0] ∨ ∃ (a : Addr) (len cap : Nat), cs = [.slice (some a) len cap] ∧ len ≤ cap ∧ cap ≤ maxLen ∧
      ∀ i, i < len → ∃ r : List Value, r.length = P.cellsOf e ∧ Fits enc P w e r ∧ ∀ j u, r[j]? = some u → w.cell? (a.add (i * P.cellsOf e + j)) = some u := by
  obtain ⟨fuel, x, h⟩ := h
  rcases Go.Deep.open_slice ht h with ⟨h0, _⟩ | ⟨a, len, cap, m, n, D, Pl, hcs, _, hl, hm, hmm, _, hi⟩
  · exact .inl h0
  · refine .inr ⟨a, len, cap, hcs, hl, hm, fun i him => ?_⟩
    obtain ⟨cs', hc, ht'⟩ := hi i (by rw [hmm]; simp; omega)
    obtain ⟨_, hcl, hat⟩ := World.cells?_some hc
    refine ⟨cs', hcl, ⟨_, _, ht'⟩, fun j u hu => ?_⟩
    have hj : j < cs'.length := (List.getElem?_eq_some_iff.1 hu).1
    have := hat j (by omega)
    rw [Go.Deep.add_add] at this
    rw [this]
    exact hu
theorem okWide_array {r : Reach} {base n : Nat} {t e : TypeId} {v : Value} (ht : P.underlying t = some (.array n e)) (h : Value.okWide P w r base t v) : ∃ cs, v = .agg cs ∧ cs.size = P.cellsOf t := by
  simp only [Value.okWide, ht] at h
  obtain ⟨cs, h1, h2, _⟩ := h
  exact ⟨cs, h1, h2⟩
theorem Fits.of {t : TypeId} {cs : Array Value} {d : DataW H} {p : List MemPlace} (h : DataW.Trod enc P w 0 (fun _ => true) true t (.agg cs) d p) : Fits enc P w t cs.toList := by
  obtain ⟨fuel, h⟩ := h
  exact ⟨fuel, _, h⟩
theorem Fits.one {t : TypeId} {v : Value} {d : DataW H} {p : List MemPlace} (h : DataW.Trod enc P w 0 (fun _ => true) true t v d p) (hv : v.cells = #[v]) : Fits enc P w t [v] := by
  obtain ⟨fuel, h⟩ := h
  rw [hv] at h
  exact ⟨fuel, _, h⟩
theorem trod_lt' {t : TypeId} {v : Value} {d : DataW H} {p : List MemPlace} (h : DataW.Trod enc P w 0 (fun _ => true) true t v d p) : ∀ x ∈ p, x.block < w.heap.size := by
  obtain ⟨m, hm⟩ := h
  exact DataW.trod_lt m _ _ _ hm
theorem exists_list {α : Type} (n : Nat) (p : Nat → α → Prop) (h : ∀ i, i < n → ∃ x, p i x) : ∃ l : List α, l.length = n ∧ ∀ (i : Nat) (x : α), l[i]? = some x → p i x := by
  induction n with
  | zero => exact ⟨[], rfl, fun i x h => by simp at h⟩
  | succ n ih =>
    obtain ⟨l, hl, hp⟩ := ih (fun i hi => h i (by omega))
    obtain ⟨x, hx⟩ := h n (by omega)
    refine ⟨l ++ [x], by simp [hl], fun i y hy => ?_⟩
    by_cases hi : i < n
    · rw [List.getElem?_append_left (by omega)] at hy
      exact hp i y hy
    · rw [List.getElem?_append_right (by omega)] at hy
      have : i - l.length = 0 := by
        have := (List.getElem?_eq_some_iff.1 hy).1
        simp at this
        omega
      rw [this] at hy
      simp only [List.getElem?_cons_zero, Option.some.injEq] at hy
      subst hy
      rwa [show i = n from by omega]
/-- A slice of structs: its rows, each made by 'row' out of an element that satisfies 'good'. -/
theorem Fits.rows {t e : TypeId} {cs : List Value} {α : Type} {size : Nat} (row : α → List Value) (good : α → Prop) (h : Fits enc P w t cs) (ht : P.underlying t = some (.slice e)) (hC : P.cellsOf e = size) (hs : 0 < size)
    (hrow : ∀ r : List Value, r.length = size → Fits enc P w e r → ∃ x, r = row x ∧ good x) :
    ∃ (A : Option Addr) (n c : Nat) (es : List α), cs = [.slice A n c] ∧ n = es.length ∧ n ≤ maxLen ∧ Sl w w.heap.size size A (es.map row) ∧ ∀ x ∈ es, good x := by
  subst hC
  rcases h.slice ht with rfl | ⟨a, len, cap, rfl, hl, hm, hi⟩
  · exact ⟨none, 0, 0, [], rfl, rfl, Nat.zero_le _, ⟨by simp, fun h => by simp at h⟩, by simp⟩
  · obtain ⟨es, hlen, hes⟩ := exists_list len (fun i (x : α) => (row x).length = P.cellsOf e ∧ good x ∧ ∀ j u, (row x)[j]? = some u → w.cell? (a.add (i * P.cellsOf e + j)) = some u) (fun i h2 => by
      obtain ⟨r, h3, h4, h5⟩ := hi i h2
      obtain ⟨x, rfl, hg⟩ := hrow r h3 h4
      exact ⟨x, h3, hg, h5⟩)
    refine ⟨some a, len, cap, es, rfl, hlen.symm, by omega, ⟨fun r hr => ?_, fun h0 => ⟨a, rfl, ?_, fun k r hr j u hu => ?_⟩⟩, fun x hx => ?_⟩
    · obtain ⟨x, hx, rfl⟩ := List.mem_map.1 hr
      obtain ⟨i, hi', rfl⟩ := List.getElem_of_mem hx
      exact (hes i _ (List.getElem?_eq_getElem hi')).1
    · rw [List.length_map] at h0
      have h1 := hes 0 _ (List.getElem?_eq_getElem h0)
      have h2 := h1.2.2 0 _ (List.getElem?_eq_getElem (by rw [h1.1]; exact hs))
      have := World.block_lt_of_cell? w _ h2
      rwa [block_of_add] at this
    · rw [List.getElem?_map] at hr
      cases hk : es[k]? with
      | none => rw [hk] at hr; cases hr
      | some x =>
        rw [hk] at hr
        simp only [Option.map_some, Option.some.injEq] at hr
        subst hr
        exact (hes k x hk).2.2 j u hu
    · obtain ⟨i, hi', rfl⟩ := List.getElem_of_mem hx
      exact (hes i _ (List.getElem?_eq_getElem hi')).2.1
end


theorem list2 {α : Type} {l : List α} (h : l.length = 2) : ∃ a b, l = [a, b] := by
  match l, h with
  | [a, b], _ => exact ⟨a, b, rfl⟩
theorem list3 {α : Type} {l : List α} (h : l.length = 3) : ∃ a b c, l = [a, b, c] := by
  match l, h with
  | [a, b, c], _ => exact ⟨a, b, c, rfl⟩
theorem list5 {α : Type} {l : List α} (h : l.length = 5) : ∃ a b c d e, l = [a, b, c, d, e] := by
  match l, h with
  | [a, b, c, d, e], _ => exact ⟨a, b, c, d, e, rfl⟩
theorem list9 {α : Type} {l : List α} (h : l.length = 9) : ∃ a b c d e f g i j, l = [a, b, c, d, e, f, g, i, j] := by
  match l, h with
  | [a, b, c, d, e, f, g, i, j], _ => exact ⟨a, b, c, d, e, f, g, i, j, rfl⟩
section
variable {H : Type} {enc : TypeId × Value → H} {w : World}
theorem own : ownKnob Tryz.prog.godebug = none := by kernel_rfl
theorem laidOut : laidOutB Tryz.prog = true := by kernel_rfl
theorem Tryz.cellsInt : Tryz.prog.cellsOf 3 = 1 := by kernel_rfl
theorem Tryz.cellsInts : Tryz.prog.cellsOf 22 = 1 := by kernel_rfl
theorem Tryz.cellsCurve : Tryz.prog.cellsOf 24 = 2 := by kernel_rfl
theorem Tryz.cellsConf : Tryz.prog.cellsOf 26 = 9 := by kernel_rfl
theorem Tryz.cellsDQ : Tryz.prog.cellsOf 39 = 2 := by kernel_rfl
theorem Tryz.cellsState : Tryz.prog.cellsOf 41 = 2 := by kernel_rfl
theorem Tryz.cellsInput : Tryz.prog.cellsOf 129 = 3 := by kernel_rfl
theorem fits_int {cs : List Value} (h : Fits enc Tryz.prog w 3 cs) : ∃ n, cs = [.int .i64 n] ∧ (Lit.int .i64 n).wf = true := h.int Tryz.underlying3
theorem agg_of {cs : Array Value} {l : List Value} (h : cs.toList = l) : Value.agg cs = .agg l.toArray := by
  rw [← h]
theorem fits_curve {cs : List Value} (h : Fits enc Tryz.prog w 24 cs) : ∃ A1 n1 c1 A2 n2 c2, ∃ X Y : List Int, cs = [.slice A1 n1 c1, .slice A2 n2 c2] ∧ n1 = X.length ∧ n2 = Y.length ∧ Sl w w.heap.size 1 A1 (rows X) ∧ Sl w w.heap.size 1 A2 (rows Y) := by
  obtain ⟨hl, hf⟩ := h.struct Tryz.underlying24
  rw [Tryz.cellsCurve] at hl
  obtain ⟨a, b, rfl⟩ := list2 hl
  have h0 : Fits enc Tryz.prog w 22 (([a, b].drop 0).take (Tryz.prog.cellsOf 22)) := hf 0 _ rfl
  have h1 : Fits enc Tryz.prog w 22 (([a, b].drop 1).take (Tryz.prog.cellsOf 22)) := hf 1 _ rfl
  simp only [Tryz.cellsInts, List.drop_succ_cons, List.drop_zero, List.take_succ_cons, List.take_zero] at h0 h1
  obtain ⟨A1, n1, c1, X, e0, hn1, _, hS1, _⟩ := h0.rows (fun x : Int => [Value.int .i64 x]) (fun _ => True) Tryz.underlying22 Tryz.cellsInt (by decide) (fun r _ hr => (fits_int hr).elim fun n h => ⟨n, h.1, trivial⟩)
  obtain ⟨A2, n2, c2, Y, e1, hn2, _, hS2, _⟩ := h1.rows (fun x : Int => [Value.int .i64 x]) (fun _ => True) Tryz.underlying22 Tryz.cellsInt (by decide) (fun r _ hr => (fits_int hr).elim fun n h => ⟨n, h.1, trivial⟩)
  simp only [List.cons.injEq, and_true] at e0 e1
  subst e0 e1
  exact ⟨A1, n1, c1, A2, n2, c2, X, Y, rfl, hn1, hn2, hS1, hS2⟩

theorem fits_dq {cs : List Value} (h : Fits enc Tryz.prog w 39 cs) : ∃ x y, cs = [.int .i64 x, .int .i64 y] := by
  obtain ⟨hl, hf⟩ := h.struct Tryz.underlying39
  rw [Tryz.cellsDQ] at hl
  obtain ⟨a, b, rfl⟩ := list2 hl
  have h0 : Fits enc Tryz.prog w 3 (([a, b].drop 0).take (Tryz.prog.cellsOf 3)) := hf 0 _ rfl
  have h1 : Fits enc Tryz.prog w 3 (([a, b].drop 1).take (Tryz.prog.cellsOf 3)) := hf 1 _ rfl
  simp only [Tryz.cellsInt, List.drop_succ_cons, List.drop_zero, List.take_succ_cons, List.take_zero] at h0 h1
  obtain ⟨x, e0, _⟩ := fits_int h0
  obtain ⟨y, e1, _⟩ := fits_int h1
  simp only [List.cons.injEq, and_true] at e0 e1
  subst e0 e1
  exact ⟨x, y, rfl⟩
theorem fits_state {cs : List Value} (h : Fits enc Tryz.prog w 41 cs) : ∃ x y, cs = [.int .i64 x, .int .i64 y] := by
  obtain ⟨hl, hf⟩ := h.struct Tryz.underlying41
  rw [Tryz.cellsState] at hl
  obtain ⟨a, b, rfl⟩ := list2 hl
  have h0 : Fits enc Tryz.prog w 39 (([a, b].drop 0).take (Tryz.prog.cellsOf 39)) := hf 0 _ rfl
  simp only [Tryz.cellsDQ, List.drop_zero, List.take_succ_cons, List.take_zero] at h0
  obtain ⟨x, y, e0⟩ := fits_dq h0
  simp only [List.cons.injEq, and_true] at e0
  obtain ⟨r0, r1⟩ := e0
  subst r0 r1
  exact ⟨x, y, rfl⟩
theorem fits_input {cs : List Value} (h : Fits enc Tryz.prog w 129 cs) : ∃ x y t, cs = [.int .i64 x, .int .i64 y, .int .i64 t] := by
  obtain ⟨hl, hf⟩ := h.struct Tryz.underlying129
  rw [Tryz.cellsInput] at hl
  obtain ⟨a, b, c, rfl⟩ := list3 hl
  have h0 : Fits enc Tryz.prog w 39 (([a, b, c].drop 0).take (Tryz.prog.cellsOf 39)) := hf 0 _ rfl
  have h1 : Fits enc Tryz.prog w 3 (([a, b, c].drop 2).take (Tryz.prog.cellsOf 3)) := hf 1 _ rfl
  simp only [Tryz.cellsDQ, Tryz.cellsInt, List.drop_succ_cons, List.drop_zero, List.take_succ_cons, List.take_zero] at h0 h1
  obtain ⟨x, y, e0⟩ := fits_dq h0
  obtain ⟨t, e1, _⟩ := fits_int h1
  simp only [List.cons.injEq, and_true] at e0 e1
  obtain ⟨r0, r1⟩ := e0
  subst r0 r1 e1
  exact ⟨x, y, t, rfl⟩
theorem fits_conf {cs : List Value} (h : Fits enc Tryz.prog w 26 cs) : ∃ (C : Cf) (A1 A2 A3 A4 : Option Addr) (n1 n2 n3 n4 c1 c2 c3 c4 : Nat), cs = [.int .i64 C.r, .int .i64 C.m, .slice A1 n1 c1, .slice A2 n2 c2, .slice A3 n3 c3, .slice A4 n4 c4, .int .i64 C.p, .int .i64 C.s, .int .i64 C.f] ∧ Ly w w.heap.size C A1 A2 A3 A4 n1 n2 n3 n4 := by
  obtain ⟨hl, hf⟩ := h.struct Tryz.underlying26
  rw [Tryz.cellsConf] at hl
  obtain ⟨a, b, c, d, e, f, g, i, j, rfl⟩ := list9 hl
  have h0 : Fits enc Tryz.prog w 3 (([a, b, c, d, e, f, g, i, j].drop 0).take (Tryz.prog.cellsOf 3)) := hf 0 _ rfl
  have h1 : Fits enc Tryz.prog w 3 (([a, b, c, d, e, f, g, i, j].drop 1).take (Tryz.prog.cellsOf 3)) := hf 1 _ rfl
  have h2 : Fits enc Tryz.prog w 24 (([a, b, c, d, e, f, g, i, j].drop 2).take (Tryz.prog.cellsOf 24)) := hf 2 _ rfl
  have h3 : Fits enc Tryz.prog w 24 (([a, b, c, d, e, f, g, i, j].drop 4).take (Tryz.prog.cellsOf 24)) := hf 3 _ rfl
  have h4 : Fits enc Tryz.prog w 3 (([a, b, c, d, e, f, g, i, j].drop 6).take (Tryz.prog.cellsOf 3)) := hf 4 _ rfl
  have h5 : Fits enc Tryz.prog w 3 (([a, b, c, d, e, f, g, i, j].drop 7).take (Tryz.prog.cellsOf 3)) := hf 5 _ rfl
  have h6 : Fits enc Tryz.prog w 3 (([a, b, c, d, e, f, g, i, j].drop 8).take (Tryz.prog.cellsOf 3)) := hf 6 _ rfl
  simp only [Tryz.cellsCurve, Tryz.cellsInt, List.drop_succ_cons, List.drop_zero, List.take_succ_cons, List.take_zero] at h0 h1 h2 h3 h4 h5 h6
  obtain ⟨r, e0, _⟩ := fits_int h0
  obtain ⟨m, e1, _⟩ := fits_int h1
  obtain ⟨A1, n1, c1, A2, n2, c2, X, Y, e2, k1, k2, s1, s2⟩ := fits_curve h2
  obtain ⟨A3, n3, c3, A4, n4, c4, U, V, e3, k3, k4, s3, s4⟩ := fits_curve h3
  obtain ⟨p, e4, _⟩ := fits_int h4
  obtain ⟨s, e5, _⟩ := fits_int h5
  obtain ⟨fr, e6, _⟩ := fits_int h6
  simp only [List.cons.injEq, and_true] at e0 e1 e2 e3 e4 e5 e6
  obtain ⟨r0, r1⟩ := e2
  obtain ⟨r2, r3⟩ := e3
  subst e0 e1 r0 r1 r2 r3 e4 e5 e6
  exact ⟨⟨r, m, X, Y, U, V, p, s, fr⟩, A1, A2, A3, A4, n1, n2, n3, n4, c1, c2, c3, c4, rfl, s1, s2, s3, s4, k1, k2, k3, k4⟩
set_option maxRecDepth 100000 in
theorem open_state {r : Reach} {base : Nat} {v : Value} {d : DataW H} {p : List MemPlace} (hv : Value.okWide Tryz.prog w r base 41 v) (h : DataW.Trod enc Tryz.prog w 0 (fun _ => true) true 41 v d p) : ∃ x y, v = .agg #[.int .i64 x, .int .i64 y] := by
  obtain ⟨cs, rfl, _⟩ := okWide_struct Tryz.underlying41 hv
  obtain ⟨x, y, hcs⟩ := fits_state (Fits.of h)
  exact ⟨x, y, agg_of hcs⟩
set_option maxRecDepth 100000 in
theorem open_input {r : Reach} {base : Nat} {v : Value} {d : DataW H} {p : List MemPlace} (hv : Value.okWide Tryz.prog w r base 129 v) (h : DataW.Trod enc Tryz.prog w 0 (fun _ => true) true 129 v d p) : ∃ x y t, v = .agg #[.int .i64 x, .int .i64 y, .int .i64 t] := by
  obtain ⟨cs, rfl, _⟩ := okWide_struct Tryz.underlying129 hv
  obtain ⟨x, y, t, hcs⟩ := fits_input (Fits.of h)
  exact ⟨x, y, t, agg_of hcs⟩
set_option maxRecDepth 100000 in
theorem open_conf {r : Reach} {base : Nat} {v : Value} {d : DataW H} {p : List MemPlace} (hv : Value.okWide Tryz.prog w r base 26 v) (h : DataW.Trod enc Tryz.prog w 0 (fun _ => true) true 26 v d p) : ∃ (C : Cf) (A1 A2 A3 A4 : Option Addr) (n1 n2 n3 n4 c1 c2 c3 c4 : Nat), v = .agg #[.int .i64 C.r, .int .i64 C.m, .slice A1 n1 c1, .slice A2 n2 c2, .slice A3 n3 c3, .slice A4 n4 c4, .int .i64 C.p, .int .i64 C.s, .int .i64 C.f] ∧ Ly w w.heap.size C A1 A2 A3 A4 n1 n2 n3 n4 := by
  obtain ⟨cs, rfl, _⟩ := okWide_struct Tryz.underlying26 hv
  obtain ⟨C, A1, A2, A3, A4, n1, n2, n3, n4, c1, c2, c3, c4, hcs, hL⟩ := fits_conf (Fits.of h)
  exact ⟨C, A1, A2, A3, A4, n1, n2, n3, n4, c1, c2, c3, c4, agg_of hcs, hL⟩
set_option maxRecDepth 100000 in
theorem open_i64 {r : Reach} {base : Nat} {v : Value} {d : DataW H} {p : List MemPlace} (hv : Value.okWide Tryz.prog w r base 3 v) (h : DataW.Trod enc Tryz.prog w 0 (fun _ => true) true 3 v d p) :
    ∃ i, v = .int .i64 i ∧ (Lit.int .i64 i).wf = true := by
  obtain ⟨i, rfl⟩ := okWide_int Tryz.underlying3 hv
  obtain ⟨j, hj, hw⟩ := fits_int (Fits.one h rfl)
  simp only [List.cons.injEq, and_true, Value.int.injEq, true_and] at hj
  subst hj
  exact ⟨i, rfl, hw⟩
end
end Go.Proofs.YtpfkiohknpeifaaGreat
