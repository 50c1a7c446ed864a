/- A state of layer 31 opened, with the ranges of its heats. -/
import Derived.Test.YtpfkiohknpeifaaGreatPOpen
namespace Go.Proofs.YtpfkiohknpeifaaGreat
open Go.ChangeShapes Go.WideShapes Go.ChangeAt Go.RowKit
section
variable {H : Type} {enc : TypeId × Value → H} {w : World}
theorem pf_intsW {cs : List Value} (h : Fits enc Tryz.prog w 22 cs) : ∃ (A : Option Addr) (n c : Nat) (X : List Int), cs = [.slice A n c] ∧ n = X.length ∧ Sl w w.heap.size 1 A (rows X) ∧ (∀ k, k < X.length → -9223372036854775808 ≤ g X k ∧ g X k ≤ 9223372036854775807) := by
  obtain ⟨A, n, c, X, e, hn, _, hS, hw⟩ := h.rows (fun x : Int => [Value.int .i64 x]) (fun x => -9223372036854775808 ≤ x ∧ x ≤ 9223372036854775807) Tryz.underlying22 cpint (by decide) (fun r _ hr => (hr.int Tryz.underlying3).elim fun n h => ⟨n, h.1, by have h2 := h.2; simp only [Lit.wf, Bool.and_eq_true, decide_eq_true_eq] at h2; exact h2⟩)
  refine ⟨A, n, c, X, e, hn, hS, fun k hk => hw _ (List.mem_of_getElem? (g_of hk))⟩
theorem pf_pstateW {cs : List Value} (h : Fits enc Tryz.prog w 47 cs) : ∃ (s : Ps) (YA : Option Addr) (yn yc : Nat), cs = [.int .i64 s.fd, .int .i64 s.fq, .int .i64 s.v, .bool s.b, .int .i64 s.po, .int .i64 s.sp, .slice YA yn yc, .int .i64 s.tn] ∧ yn = s.h.length ∧ Sl w w.heap.size 1 YA (rows s.h) ∧ (∀ k, k < s.h.length → -9223372036854775808 ≤ g s.h k ∧ g s.h k ≤ 9223372036854775807) := by
  obtain ⟨hl, hf⟩ := h.struct Tryz.underlying47
  rw [cpPlantState] at hl
  obtain ⟨x0, x1, x2, x3, x4, x5, x6, x7, rfl⟩ := lst8 hl
  have h0 : Fits enc Tryz.prog w 41 (([x0, x1, x2, x3, x4, x5, x6, x7].drop 0).take (Tryz.prog.cellsOf 41)) := hf 0 _ rfl
  have h1 : Fits enc Tryz.prog w 43 (([x0, x1, x2, x3, x4, x5, x6, x7].drop 2).take (Tryz.prog.cellsOf 43)) := hf 1 _ rfl
  have h2 : Fits enc Tryz.prog w 45 (([x0, x1, x2, x3, x4, x5, x6, x7].drop 4).take (Tryz.prog.cellsOf 45)) := hf 2 _ rfl
  have h3 : Fits enc Tryz.prog w 22 (([x0, x1, x2, x3, x4, x5, x6, x7].drop 6).take (Tryz.prog.cellsOf 22)) := hf 3 _ rfl
  have h4 : Fits enc Tryz.prog w 3 (([x0, x1, x2, x3, x4, x5, x6, x7].drop 7).take (Tryz.prog.cellsOf 3)) := hf 4 _ rfl
  simp only [cpLinkState, cpMachineState, cpShaftState, cpint, cpsint, List.drop_succ_cons, List.drop_zero, List.take_succ_cons, List.take_zero] at h0 h1 h2 h3 h4
  obtain ⟨fd, fq, e0⟩ := pf_mstate h0
  simp only [List.cons.injEq, and_true] at e0
  obtain ⟨q0_0, q0_1⟩ := e0
  subst q0_0 q0_1
  obtain ⟨v, b, e1⟩ := pf_lstate h1
  simp only [List.cons.injEq, and_true] at e1
  obtain ⟨q1_0, q1_1⟩ := e1
  subst q1_0 q1_1
  obtain ⟨po, sp, e2⟩ := pf_sstate h2
  simp only [List.cons.injEq, and_true] at e2
  obtain ⟨q2_0, q2_1⟩ := e2
  subst q2_0 q2_1
  obtain ⟨YA, yn, yc, Y, e3, ky, sy, wy⟩ := pf_intsW h3
  simp only [List.cons.injEq, and_true] at e3
  subst e3
  obtain ⟨tn, e4⟩ := pf_int h4
  simp only [List.cons.injEq, and_true] at e4
  subst e4
  exact ⟨⟨fd, fq, v, b, po, sp, Y, tn⟩, YA, yn, yc, rfl, ky, sy, wy⟩
set_option maxRecDepth 100000 in
theorem open_pstateW {r : Reach} {base : Nat} {v : Value} {d : DataW H} {p : List MemPlace} (hv : Value.okWide Tryz.prog w r base 47 v) (h : DataW.Trod enc Tryz.prog w 0 (fun _ => true) true 47 v d p) : ∃ (s : Ps) (YA : Option Addr) (yn yc : Nat), v = .agg #[.int .i64 s.fd, .int .i64 s.fq, .int .i64 s.v, .bool s.b, .int .i64 s.po, .int .i64 s.sp, .slice YA yn yc, .int .i64 s.tn] ∧ yn = s.h.length ∧ Sl w w.heap.size 1 YA (rows s.h) ∧ (∀ k, k < s.h.length → -9223372036854775808 ≤ g s.h k ∧ g s.h k ≤ 9223372036854775807) := by
  obtain ⟨cs, rfl, _⟩ := okWide_struct Tryz.underlying47 hv
  obtain ⟨s, YA, yn, yc, hcs, h1, h2, h3⟩ := pf_pstateW (Fits.of h)
  exact ⟨s, YA, yn, yc, agg_of hcs, h1, h2, h3⟩
end
end Go.Proofs.YtpfkiohknpeifaaGreat
