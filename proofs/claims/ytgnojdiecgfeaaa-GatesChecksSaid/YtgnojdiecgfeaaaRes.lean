/- Results that lie in memory; loads of whole arrays and structs out of a known block. -/
import Derived.Test.YtgnojdiecgfeaaaBase
namespace Go.Proofs.Ytgnojdiecgfeaaa
open Go.RowKit

theorem hide {p : Prop} (h : p) : Hid p := h
theorem unhide {p : Prop} (h : Hid p) : p := h

theorem ret_cell_tmp {P : Program} {fn : Func} {p u : Tmp} {ty : TypeId} (h : fn.results = #[.cell p ty, .tmp u]) {tmps : Array Value} {w : World} {a : Addr} {v : Value}
    (hp : tmps.getD p undef = .pointer (some a)) (hl : (loadVar ty a).run P w = .ok v w) : (results fn tmps).run P w = .ok (.tuple #[v, tmps.getD u undef]) w := by
  rw [results_cell_tmp h, hp]
  simp [asAddr, hl]
theorem ret_cell {P : Program} {fn : Func} {p : Tmp} {ty : TypeId} (h : fn.results = #[.cell p ty]) {tmps : Array Value} {w : World} {a : Addr} {v : Value}
    (hp : tmps.getD p undef = .pointer (some a)) (hl : (loadVar ty a).run P w = .ok v w) : (results fn tmps).run P w = .ok v w := by
  have hp' : tmps[p]?.getD undef = .pointer (some a) := by simpa using hp
  simp only [results, h]
  simp [asAddr, hp', hl]
theorem load_ints3 {w : World} {g : Nat} {t : TypeId} {a b c : Value} (h : Blk w g t #[a, b, c]) : (loadVar 26 ⟨g, 0, none⟩).run Try.prog w = .ok (.agg #[a, b, c]) w := by
  obtain ⟨k0, k1, k2⟩ := h.c3
  simp [go_sem, k0, k1, k2]
theorem load_gates {w : World} {g : Nat} {t : TypeId} {a b c d e f x y : Value} (h : Blk w g t #[a, b, c, d, e, f, x, y]) : (loadVar 25 ⟨g, 0, none⟩).run Try.prog w = .ok (.agg #[a, b, c, d, e, f, x, y]) w := by
  obtain ⟨k0, k1, k2, k3, k4, k5, k6, k7⟩ := h.c8
  simp [go_sem, k0, k1, k2, k3, k4, k5, k6, k7]
theorem load_ab {w : World} {g : Nat} {t : TypeId} {a b : Value} (h : Blk w g t #[a, b]) : (loadVar 73 ⟨g, 0, none⟩).run Try.prog w = .ok (.agg #[a, b]) w := by
  obtain ⟨k0, k1⟩ := h.c2
  simp [go_sem, k0, k1]
theorem index3_0 (a b c : Value) (w : World) : (Instr.index 26 (.agg #[a, b, c]) (.int .i64 0)).run Try.prog w = .ok a w := by kernel_rfl
theorem index3_1 (a b c : Value) (w : World) : (Instr.index 26 (.agg #[a, b, c]) (.int .i64 1)).run Try.prog w = .ok b w := by kernel_rfl
theorem index3_2 (a b c : Value) (w : World) : (Instr.index 26 (.agg #[a, b, c]) (.int .i64 2)).run Try.prog w = .ok c w := by kernel_rfl
theorem Sl.of_block {w : World} {g size B : Nat} {e : TypeId} {cs : Array Value} {rs : List (List Value)} (h : Blk w g e cs) (hf : rs.flatten = cs.toList) (hl : ∀ r ∈ rs, r.length = size) (hB : g < B) : Sl w B size (some ⟨g, 0, none⟩) rs :=
  ⟨hl, fun _ => ⟨_, rfl, hB, fun k r hr j u hu => by
    have hadd : (⟨g, 0, none⟩ : Addr).add (k * size + j) = ⟨g, k * size + j, none⟩ := by
      unfold Addr.add
      split <;> simp_all
    rw [hadd, h.cell]
    have := flat_get size rs hl k r hr j u hu
    rw [hf] at this
    simpa using this⟩⟩
theorem w64 {x : Int} (h1 : -4611686018427387904 ≤ x) (h2 : x ≤ 4611686018427387904) : wrap64 x = x := by
  unfold wrap64; omega
theorem quiet_left {P : Program} {f : FuncId} {args : Array Value} {w : World} {n : Nat} {v : Value}
    (h : Calls P f args (w.drewN n) fun e w' => e = .returned v ∧ w.drewN n = w') : Calls P f args (w.drewN n) fun e w'' => e = .returned v ∧ ∃ m, w'' = w.drewN m :=
  h.mono fun _ _ ⟨he, hm⟩ => ⟨he, n, hm.symm⟩
theorem quiet_add_left {P : Program} {f : FuncId} {args : Array Value} {w : World} {a n : Nat} {v : Value}
    (h : Calls P f args (w.drewN (a + n)) fun e w' => e = .returned v ∧ w.drewN (a + n) = w') :
    Calls P f args (w.drewN (a + n)) fun e w'' => e = .returned v ∧ ∃ m, w'' = w.drewN (a + m) :=
  h.mono fun _ _ ⟨he, hm⟩ => ⟨he, n, hm.symm⟩

end Go.Proofs.Ytgnojdiecgfeaaa
