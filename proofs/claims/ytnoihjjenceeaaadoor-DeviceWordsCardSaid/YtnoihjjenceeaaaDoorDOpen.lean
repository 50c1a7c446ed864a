/- Arguments opened: what a readable value of a type looks like. -/
import Derived.Test.YtnoihjjenceeaaaDoorDLaid
import Derived.Deep.Slices
import Derived.ChangeOld
namespace Go.Proofs.YtnoihjjenceeaaaDoor
open Go.ChangeShapes Go.WideShapes Go.ChangeAt Go.RowKit

section
variable {H : Type} {enc : TypeId × Value → H} {P : Program} {w : World}
/-- The cells cs can be read as a value of type t. -/
def Fits (enc : TypeId × Value → H) (P : Program) (w : World) (t : TypeId) (cs : List Value) : Prop := ∃ fuel x, DataW.trod enc P w 0 (fun _ => true) true fuel t cs = some x
theorem Fits.int {t : TypeId} {k : IntKind} {cs : List Value} (h : Fits enc P w t cs) (ht : P.underlying t = some (.int k)) : ∃ n, cs = [.int k n] ∧ (Lit.int k n).wf = true := by
  obtain ⟨fuel, x, h⟩ := h
  obtain ⟨n, h1, _, h2⟩ := DataW.trod_int ht h
  exact ⟨n, h1, h2⟩
theorem Fits.bool {t : TypeId} {cs : List Value} (h : Fits enc P w t cs) (ht : P.underlying t = some .bool) : ∃ b, cs = [.bool b] := by
  obtain ⟨fuel, x, h⟩ := h
  obtain ⟨n, h1, _⟩ := DataW.trod_bool ht h
  exact ⟨n, h1⟩
theorem Fits.struct {t : TypeId} {fs : Array Field} {cs : List Value} (h : Fits enc P w t cs) (ht : P.underlying t = some (.struct fs)) :
    cs.length = P.cellsOf t ∧ ∀ (i : Nat) (f : Field), fs[i]? = some f → Fits enc P w f.type ((cs.drop f.offset).take (P.cellsOf f.type)) := by
  obtain ⟨fuel, x, h⟩ := h
  obtain ⟨xs, n, _, _, hl, hx, hf⟩ := DataW.trod_struct ht h
  refine ⟨hl, fun i f hi => ?_⟩
  have h1 := hf i f hi
  have hi' : i < xs.length := by rw [hx]; exact (Array.getElem?_eq_some_iff.1 hi).1
  rw [List.getElem?_eq_getElem hi'] at h1
  exact ⟨n, _, h1⟩
theorem Fits.array {t e : TypeId} {n : Nat} {cs : List Value} (h : Fits enc P w t cs) (ht : P.underlying t = some (.array n e)) :
    cs.length = P.cellsOf t ∧ ∀ i, i < n → Fits enc P w e ((cs.drop (i * P.cellsOf e)).take (P.cellsOf e)) := by
  obtain ⟨fuel, x, h⟩ := h
  obtain ⟨xs, m, _, _, hl, hx, hf⟩ := DataW.trod_array ht h
  refine ⟨hl, fun i hi => ?_⟩
  have h1 := hf i hi
  rw [List.getElem?_eq_getElem (by omega)] at h1
  exact ⟨m, _, h1⟩
theorem Fits.slice {t e : TypeId} {cs : List Value} (h : Fits enc P w t cs) (ht : P.underlying t = some (.slice e)) :
    cs = [.slice none 0 0] ∨ ∃ (a : Addr) (len cap : Nat), cs = [.slice (some a) len cap] ∧ len ≤ cap ∧ cap ≤ maxLen ∧
      ∀ i, i < len → ∃ r : List Value, r.length = P.cellsOf e ∧ Fits enc P w e r ∧ ∀ j u, r[j]? = some u → w.cell? (a.add (i * P.cellsOf e + j)) = some u := by
  obtain ⟨fuel, x, h⟩ := h
  rcases Go.Deep.open_slice ht h with ⟨h0, _⟩ | ⟨a, len, cap, m, n, D, Pl, hcs, _, hl, hm, hmm, _, hi⟩
  · exact .inl h0
  · refine .inr ⟨a, len, cap, hcs, hl, hm, fun i him => ?_⟩
    obtain ⟨cs', hc, ht'⟩ := hi i (by rw [hmm]; simp; omega)
    obtain ⟨_, hcl, hat⟩ := World.cells?_some hc
    refine ⟨cs', hcl, ⟨_, _, ht'⟩, fun j u hu => ?_⟩
    have hj : j < cs'.length := (List.getElem?_eq_some_iff.1 hu).1
    have := hat j (by omega)
    rw [Go.Deep.add_add] at this
    rw [this]
    exact hu
theorem okWide_array {r : Reach} {base n : Nat} {t e : TypeId} {v : Value} (ht : P.underlying t = some (.array n e)) (h : Value.okWide P w r base t v) : ∃ cs, v = .agg cs ∧ cs.size = P.cellsOf t := by
  simp only [Value.okWide, ht] at h
  obtain ⟨cs, h1, h2, _⟩ := h
  exact ⟨cs, h1, h2⟩
theorem Fits.of {t : TypeId} {cs : Array Value} {d : DataW H} {p : List MemPlace} (h : DataW.Trod enc P w 0 (fun _ => true) true t (.agg cs) d p) : Fits enc P w t cs.toList := by
  obtain ⟨fuel, h⟩ := h
  exact ⟨fuel, _, h⟩
theorem Fits.one {t : TypeId} {v : Value} {d : DataW H} {p : List MemPlace} (h : DataW.Trod enc P w 0 (fun _ => true) true t v d p) (hv : v.cells = #[v]) : Fits enc P w t [v] := by
  obtain ⟨fuel, h⟩ := h
  rw [hv] at h
  exact ⟨fuel, _, h⟩
theorem trod_lt' {t : TypeId} {v : Value} {d : DataW H} {p : List MemPlace} (h : DataW.Trod enc P w 0 (fun _ => true) true t v d p) : ∀ x ∈ p, x.block < w.heap.size := by
  obtain ⟨m, hm⟩ := h
  exact DataW.trod_lt m _ _ _ hm
theorem exists_list {α : Type} (n : Nat) (p : Nat → α → Prop) (h : ∀ i, i < n → ∃ x, p i x) : ∃ l : List α, l.length = n ∧ ∀ (i : Nat) (x : α), l[i]? = some x → p i x := by
  induction n with
  | zero => exact ⟨[], rfl, fun i x h => by simp at h⟩
  | succ n ih =>
    obtain ⟨l, hl, hp⟩ := ih (fun i hi => h i (by omega))
    obtain ⟨x, hx⟩ := h n (by omega)
    refine ⟨l ++ [x], by simp [hl], fun i y hy => ?_⟩
    by_cases hi : i < n
    · rw [List.getElem?_append_left (by omega)] at hy
      exact hp i y hy
    · rw [List.getElem?_append_right (by omega)] at hy
      have : i - l.length = 0 := by
        have := (List.getElem?_eq_some_iff.1 hy).1
        simp at this
        omega
      rw [this] at hy
      simp only [List.getElem?_cons_zero, Option.some.injEq] at hy
      subst hy
      rwa [show i = n from by omega]
/-- A slice of structs: its rows, each made by 'row' out of an element that satisfies 'good'. -/
theorem Fits.rows {t e : TypeId} {cs : List Value} {α : Type} {size : Nat} (row : α → List Value) (good : α → Prop) (h : Fits enc P w t cs) (ht : P.underlying t = some (.slice e)) (hC : P.cellsOf e = size) (hs : 0 < size)
    (hrow : ∀ r : List Value, r.length = size → Fits enc P w e r → ∃ x, r = row x ∧ good x) :
    ∃ (A : Option Addr) (n c : Nat) (es : List α), cs = [.slice A n c] ∧ n = es.length ∧ n ≤ maxLen ∧ Sl w w.heap.size size A (es.map row) ∧ ∀ x ∈ es, good x := by
  subst hC
  rcases h.slice ht with rfl | ⟨a, len, cap, rfl, hl, hm, hi⟩
  · exact ⟨none, 0, 0, [], rfl, rfl, Nat.zero_le _, ⟨by simp, fun h => by simp at h⟩, by simp⟩
  · obtain ⟨es, hlen, hes⟩ := exists_list len (fun i (x : α) => (row x).length = P.cellsOf e ∧ good x ∧ ∀ j u, (row x)[j]? = some u → w.cell? (a.add (i * P.cellsOf e + j)) = some u) (fun i h2 => by
      obtain ⟨r, h3, h4, h5⟩ := hi i h2
      obtain ⟨x, rfl, hg⟩ := hrow r h3 h4
      exact ⟨x, h3, hg, h5⟩)
    refine ⟨some a, len, cap, es, rfl, hlen.symm, by omega, ⟨fun r hr => ?_, fun h0 => ⟨a, rfl, ?_, fun k r hr j u hu => ?_⟩⟩, fun x hx => ?_⟩
    · obtain ⟨x, hx, rfl⟩ := List.mem_map.1 hr
      obtain ⟨i, hi', rfl⟩ := List.getElem_of_mem hx
      exact (hes i _ (List.getElem?_eq_getElem hi')).1
    · rw [List.length_map] at h0
      have h1 := hes 0 _ (List.getElem?_eq_getElem h0)
      have h2 := h1.2.2 0 _ (List.getElem?_eq_getElem (by rw [h1.1]; exact hs))
      have := World.block_lt_of_cell? w _ h2
      rwa [block_of_add] at this
    · rw [List.getElem?_map] at hr
      cases hk : es[k]? with
      | none => rw [hk] at hr; cases hr
      | some x =>
        rw [hk] at hr
        simp only [Option.map_some, Option.some.injEq] at hr
        subst hr
        exact (hes k x hk).2.2 j u hu
    · obtain ⟨i, hi', rfl⟩ := List.getElem_of_mem hx
      exact (hes i _ (List.getElem?_eq_getElem hi')).2.1
end


theorem list5 {α : Type} {l : List α} (h : l.length = 5) : ∃ a b c d e, l = [a, b, c, d, e] := by
  match l, h with
  | [a, b, c, d, e], _ => exact ⟨a, b, c, d, e, rfl⟩
theorem list4 {α : Type} {l : List α} (h : l.length = 4) : ∃ a b c d, l = [a, b, c, d] := by
  match l, h with
  | [a, b, c, d], _ => exact ⟨a, b, c, d, rfl⟩
/-- An input of a device. -/
structure Dn where
  c : Int
  link : Bool
  fault : Bool
  still : Bool
  done : Bool
def Dn.row (x : Dn) : List Value := [.int .i64 x.c, .bool x.link, .bool x.fault, .bool x.still, .bool x.done]
section
variable {H : Type} {enc : TypeId × Value → H} {w : World}
theorem cellsIn : Tryd.prog.cellsOf 23 = 5 := by kernel_rfl
theorem cellsInt1 : Tryd.prog.cellsOf 3 = 1 := by kernel_rfl
theorem cellsBool1 : Tryd.prog.cellsOf 4 = 1 := by kernel_rfl
theorem cellsU8 : Tryd.prog.cellsOf 5 = 1 := by kernel_rfl
theorem cellsFour : Tryd.prog.cellsOf 47 = 4 := by kernel_rfl
theorem fits_int {cs : List Value} (h : Fits enc Tryd.prog w 3 cs) : ∃ n, cs = [.int .i64 n] ∧ (Lit.int .i64 n).wf = true := h.int Tryd.underlying3
theorem fits_bool {cs : List Value} (h : Fits enc Tryd.prog w 4 cs) : ∃ b, cs = [.bool b] := h.bool Tryd.underlying4
theorem fits_u8 {cs : List Value} (h : Fits enc Tryd.prog w 5 cs) : ∃ n, cs = [.int .u8 n] ∧ (Lit.int .u8 n).wf = true := h.int Tryd.underlying5
theorem fits_in {cs : List Value} (h : Fits enc Tryd.prog w 23 cs) : ∃ x : Dn, cs = x.row := by
  obtain ⟨hl, hf⟩ := h.struct Tryd.underlying23
  rw [cellsIn] at hl
  obtain ⟨a, b, c, d, e, rfl⟩ := list5 hl
  have h0 : Fits enc Tryd.prog w 3 (([a, b, c, d, e].drop 0).take (Tryd.prog.cellsOf 3)) := hf 0 _ rfl
  have h1 : Fits enc Tryd.prog w 4 (([a, b, c, d, e].drop 1).take (Tryd.prog.cellsOf 4)) := hf 1 _ rfl
  have h2 : Fits enc Tryd.prog w 4 (([a, b, c, d, e].drop 2).take (Tryd.prog.cellsOf 4)) := hf 2 _ rfl
  have h3 : Fits enc Tryd.prog w 4 (([a, b, c, d, e].drop 3).take (Tryd.prog.cellsOf 4)) := hf 3 _ rfl
  have h4 : Fits enc Tryd.prog w 4 (([a, b, c, d, e].drop 4).take (Tryd.prog.cellsOf 4)) := hf 4 _ rfl
  simp only [cellsInt1, cellsBool1, List.drop_succ_cons, List.drop_zero, List.take_succ_cons, List.take_zero] at h0 h1 h2 h3 h4
  obtain ⟨t, e0, _⟩ := fits_int h0
  obtain ⟨b1, e1⟩ := fits_bool h1
  obtain ⟨b2, e2⟩ := fits_bool h2
  obtain ⟨b3, e3⟩ := fits_bool h3
  obtain ⟨b4, e4⟩ := fits_bool h4
  simp only [List.cons.injEq, and_true] at e0 e1 e2 e3 e4
  subst e0 e1 e2 e3 e4
  exact ⟨⟨t, b1, b2, b3, b4⟩, rfl⟩
theorem fits_four {cs : List Value} (h : Fits enc Tryd.prog w 47 cs) : ∃ a b c d, cs = [.int .i64 a, .int .i64 b, .int .i64 c, .int .i64 d] := by
  obtain ⟨hl, hf⟩ := h.array Tryd.underlying47
  rw [cellsFour] at hl
  obtain ⟨a, b, c, d, rfl⟩ := list4 hl
  have h0 := hf 0 (by decide)
  have h1 := hf 1 (by decide)
  have h2 := hf 2 (by decide)
  have h3 := hf 3 (by decide)
  simp only [cellsInt1, Nat.mul_one, List.drop_succ_cons, List.drop_zero, List.take_succ_cons, List.take_zero] at h0 h1 h2 h3
  obtain ⟨b0, e0, _⟩ := fits_int h0
  obtain ⟨b1, e1, _⟩ := fits_int h1
  obtain ⟨b2, e2, _⟩ := fits_int h2
  obtain ⟨b3, e3, _⟩ := fits_int h3
  simp only [List.cons.injEq, and_true] at e0 e1 e2 e3
  subst e0 e1 e2 e3
  exact ⟨b0, b1, b2, b3, rfl⟩
theorem agg_of {cs : Array Value} {l : List Value} (h : cs.toList = l) : Value.agg cs = .agg l.toArray := by
  rw [← h]
set_option maxRecDepth 100000 in
theorem open_i64 {r : Reach} {base : Nat} {v : Value} {d : DataW H} {p : List MemPlace} (hv : Value.okWide Tryd.prog w r base 3 v) (h : DataW.Trod enc Tryd.prog w 0 (fun _ => true) true 3 v d p) :
    ∃ i, v = .int .i64 i ∧ (Lit.int .i64 i).wf = true := by
  obtain ⟨i, rfl⟩ := okWide_int Tryd.underlying3 hv
  obtain ⟨j, hj, hw⟩ := fits_int (Fits.one h rfl)
  simp only [List.cons.injEq, and_true, Value.int.injEq, true_and] at hj
  subst hj
  exact ⟨i, rfl, hw⟩
set_option maxRecDepth 100000 in
theorem open_u8 {r : Reach} {base : Nat} {v : Value} {d : DataW H} {p : List MemPlace} (hv : Value.okWide Tryd.prog w r base 5 v) (h : DataW.Trod enc Tryd.prog w 0 (fun _ => true) true 5 v d p) :
    ∃ i, v = .int .u8 i ∧ (Lit.int .u8 i).wf = true := by
  obtain ⟨i, rfl⟩ := okWide_int Tryd.underlying5 hv
  obtain ⟨j, hj, hw⟩ := fits_u8 (Fits.one h rfl)
  simp only [List.cons.injEq, and_true, Value.int.injEq, true_and] at hj
  subst hj
  exact ⟨i, rfl, hw⟩
set_option maxRecDepth 100000 in
theorem open_in {r : Reach} {base : Nat} {v : Value} {d : DataW H} {p : List MemPlace} (hv : Value.okWide Tryd.prog w r base 23 v) (h : DataW.Trod enc Tryd.prog w 0 (fun _ => true) true 23 v d p) :
    ∃ x : Dn, v = .agg #[.int .i64 x.c, .bool x.link, .bool x.fault, .bool x.still, .bool x.done] := by
  obtain ⟨cs, rfl, _⟩ := okWide_struct Tryd.underlying23 hv
  obtain ⟨x, hcs⟩ := fits_in (Fits.of h)
  exact ⟨x, agg_of hcs⟩
set_option maxRecDepth 100000 in
theorem open_four {r : Reach} {base : Nat} {v : Value} {d : DataW H} {p : List MemPlace} (hv : Value.okWide Tryd.prog w r base 47 v) (h : DataW.Trod enc Tryd.prog w 0 (fun _ => true) true 47 v d p) :
    ∃ a b c e, v = .agg #[.int .i64 a, .int .i64 b, .int .i64 c, .int .i64 e] := by
  obtain ⟨cs, rfl, _⟩ := okWide_array Tryd.underlying47 hv
  obtain ⟨a, b, c, e, hcs⟩ := fits_four (Fits.of h)
  exact ⟨a, b, c, e, agg_of hcs⟩
set_option maxRecDepth 100000 in
theorem open_b {r : Reach} {base : Nat} {v : Value} {d : DataW H} {p : List MemPlace} (hv : Value.okWide Tryd.prog w r base 4 v) (h : DataW.Trod enc Tryd.prog w 0 (fun _ => true) true 4 v d p) : ∃ b, v = .bool b := by
  obtain ⟨b, hv, _⟩ := open_bool Tryd.underlying4 hv h
  exact ⟨b, hv⟩
set_option maxRecDepth 100000 in
theorem open_ins {r : Reach} {base : Nat} {v : Value} {d : DataW H} {p : List MemPlace} (hv : Value.okWide Tryd.prog w r base 41 v) (h : DataW.Trod enc Tryd.prog w 0 (fun _ => true) true 41 v d p) :
    ∃ (A : Option Addr) (n c : Nat) (ds : List Dn), v = .slice A n c ∧ n = ds.length ∧ Sl w w.heap.size 5 A (ds.map Dn.row) := by
  obtain ⟨a, len, cap, rfl⟩ := okWide_slice Tryd.underlying41 hv
  obtain ⟨A, n, c, ds, hcs, hn, _, hS, _⟩ := (Fits.one h rfl).rows Dn.row (fun _ => True) Tryd.underlying41 cellsIn (by decide) (fun r _ hr => by
    obtain ⟨x, rfl⟩ := fits_in hr
    exact ⟨x, rfl, trivial⟩)
  simp only [List.cons.injEq, and_true] at hcs
  rw [hcs]
  exact ⟨A, n, c, ds, rfl, hn, hS⟩
end

end Go.Proofs.YtnoihjjenceeaaaDoor
