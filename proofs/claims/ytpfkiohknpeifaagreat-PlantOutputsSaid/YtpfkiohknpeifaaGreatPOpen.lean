/- Arguments opened: configurations, states and inputs of layer 31. -/
import Derived.Test.YtpfkiohknpeifaaGreatOpen
import Derived.Test.YtpfkiohknpeifaaGreatPPlant
namespace Go.Proofs.YtpfkiohknpeifaaGreat
open Go.ChangeShapes Go.WideShapes Go.ChangeAt Go.RowKit
theorem lst2 {α : Type} {l : List α} (h : l.length = 2) : ∃ x0 x1, l = [x0, x1] := by
  match l, h with
  | [x0, x1], _ => exact ⟨x0, x1, rfl⟩
theorem lst3 {α : Type} {l : List α} (h : l.length = 3) : ∃ x0 x1 x2, l = [x0, x1, x2] := by
  match l, h with
  | [x0, x1, x2], _ => exact ⟨x0, x1, x2, rfl⟩
theorem lst6 {α : Type} {l : List α} (h : l.length = 6) : ∃ x0 x1 x2 x3 x4 x5, l = [x0, x1, x2, x3, x4, x5] := by
  match l, h with
  | [x0, x1, x2, x3, x4, x5], _ => exact ⟨x0, x1, x2, x3, x4, x5, rfl⟩
theorem lst8 {α : Type} {l : List α} (h : l.length = 8) : ∃ x0 x1 x2 x3 x4 x5 x6 x7, l = [x0, x1, x2, x3, x4, x5, x6, x7] := by
  match l, h with
  | [x0, x1, x2, x3, x4, x5, x6, x7], _ => exact ⟨x0, x1, x2, x3, x4, x5, x6, x7, rfl⟩
theorem lst18 {α : Type} {l : List α} (h : l.length = 18) : ∃ x0 x1 x2 x3 x4 x5 x6 x7 x8 x9 x10 x11 x12 x13 x14 x15 x16 x17, l = [x0, x1, x2, x3, x4, x5, x6, x7, x8, x9, x10, x11, x12, x13, x14, x15, x16, x17] := by
  match l, h with
  | [x0, x1, x2, x3, x4, x5, x6, x7, x8, x9, x10, x11, x12, x13, x14, x15, x16, x17], _ => exact ⟨x0, x1, x2, x3, x4, x5, x6, x7, x8, x9, x10, x11, x12, x13, x14, x15, x16, x17, rfl⟩
theorem lst25 {α : Type} {l : List α} (h : l.length = 25) : ∃ x0 x1 x2 x3 x4 x5 x6 x7 x8 x9 x10 x11 x12 x13 x14 x15 x16 x17 x18 x19 x20 x21 x22 x23 x24, l = [x0, x1, x2, x3, x4, x5, x6, x7, x8, x9, x10, x11, x12, x13, x14, x15, x16, x17, x18, x19, x20, x21, x22, x23, x24] := by
  match l, h with
  | [x0, x1, x2, x3, x4, x5, x6, x7, x8, x9, x10, x11, x12, x13, x14, x15, x16, x17, x18, x19, x20, x21, x22, x23, x24], _ => exact ⟨x0, x1, x2, x3, x4, x5, x6, x7, x8, x9, x10, x11, x12, x13, x14, x15, x16, x17, x18, x19, x20, x21, x22, x23, x24, rfl⟩
section
variable {H : Type} {enc : TypeId × Value → H} {w : World}
theorem cpint : Tryz.prog.cellsOf 3 = 1 := by kernel_rfl
theorem cpbool : Tryz.prog.cellsOf 4 = 1 := by kernel_rfl
theorem cpsint : Tryz.prog.cellsOf 22 = 1 := by kernel_rfl
theorem cpssint : Tryz.prog.cellsOf 31 = 1 := by kernel_rfl
theorem cpMachineConfig : Tryz.prog.cellsOf 26 = 9 := by kernel_rfl
theorem cpLinkConfig : Tryz.prog.cellsOf 28 = 8 := by kernel_rfl
theorem cpShaftConfig : Tryz.prog.cellsOf 30 = 3 := by kernel_rfl
theorem cpHeatConfig : Tryz.prog.cellsOf 33 = 3 := by kernel_rfl
theorem cpPlantConfig : Tryz.prog.cellsOf 35 = 25 := by kernel_rfl
theorem cpDQ : Tryz.prog.cellsOf 39 = 2 := by kernel_rfl
theorem cpMachineState : Tryz.prog.cellsOf 41 = 2 := by kernel_rfl
theorem cpLinkState : Tryz.prog.cellsOf 43 = 2 := by kernel_rfl
theorem cpShaftState : Tryz.prog.cellsOf 45 = 2 := by kernel_rfl
theorem cpPlantState : Tryz.prog.cellsOf 47 = 8 := by kernel_rfl
theorem cpsixbool : Tryz.prog.cellsOf 48 = 6 := by kernel_rfl
theorem cpGateEdge : Tryz.prog.cellsOf 143 = 3 := by kernel_rfl
theorem cpsGateEdge : Tryz.prog.cellsOf 49 = 1 := by kernel_rfl
theorem cpGates : Tryz.prog.cellsOf 51 = 8 := by kernel_rfl
theorem cpPlantInput : Tryz.prog.cellsOf 53 = 18 := by kernel_rfl
theorem pf_int {cs : List Value} (h : Fits enc Tryz.prog w 3 cs) : ∃ n, cs = [.int .i64 n] := (h.int Tryz.underlying3).elim fun n h => ⟨n, h.1⟩
theorem pf_bool {cs : List Value} (h : Fits enc Tryz.prog w 4 cs) : ∃ b, cs = [.bool b] := h.bool Tryz.underlying4
theorem pf_ints {cs : List Value} (h : Fits enc Tryz.prog w 22 cs) : ∃ (A : Option Addr) (n c : Nat) (X : List Int), cs = [.slice A n c] ∧ n = X.length ∧ Sl w w.heap.size 1 A (rows X) := by
  obtain ⟨A, n, c, X, e, hn, _, hS, _⟩ := h.rows (fun x : Int => [Value.int .i64 x]) (fun _ => True) Tryz.underlying22 cpint (by decide) (fun r _ hr => (pf_int hr).elim fun n h => ⟨n, h, trivial⟩)
  exact ⟨A, n, c, X, e, hn, hS⟩
theorem pf_links {cs : List Value} (h : Fits enc Tryz.prog w 31 cs) : ∃ (A : Option Addr) (n c : Nat) (Lk : List (List Int)) (PA : Nat → Option Addr) (PC : Nat → Nat), cs = [.slice A n c] ∧ n = Lk.length ∧
    (0 < Lk.length → ∃ ad, A = some ad ∧ ad.block < w.heap.size ∧ ∀ i, i < Lk.length → w.cell? (ad.add i) = some (.slice (PA i) (Lk.getD i []).length (PC i))) ∧ ∀ i, i < Lk.length → Sl w w.heap.size 1 (PA i) (rows (Lk.getD i [])) := by
  obtain ⟨A, n, c, es, e, hn, _, hS, hg⟩ := h.rows (fun x : Option Addr × Nat × Nat × List Int => [Value.slice x.1 x.2.1 x.2.2.1]) (fun x => x.2.1 = x.2.2.2.length ∧ Sl w w.heap.size 1 x.1 (rows x.2.2.2)) Tryz.underlying31 cpsint (by decide) (fun r _ hr => by
    obtain ⟨A, n, c, X, e, hn, hS⟩ := pf_ints hr
    exact ⟨(A, n, c, X), e, hn, hS⟩)
  have hge : ∀ i, i < es.length → ∃ x, es[i]? = some x ∧ x ∈ es := fun i hi => ⟨_, List.getElem?_eq_getElem hi, List.getElem_mem hi⟩
  refine ⟨A, n, c, es.map (fun x => x.2.2.2), fun i => (es.getD i (none, 0, 0, [])).1, fun i => (es.getD i (none, 0, 0, [])).2.2.1, e, by simpa using hn, fun h0 => ?_, fun i hi => ?_⟩
  · rw [List.length_map] at h0
    obtain ⟨ad, ea, hb, hc⟩ := hS.at_ (by simpa using h0)
    refine ⟨ad, ea, hb, fun i hi => ?_⟩
    rw [List.length_map] at hi
    obtain ⟨x, hx, hm⟩ := hge i hi
    have h1 := hc i [Value.slice x.1 x.2.1 x.2.2.1] (by simp [hx]) 0 _ rfl
    simp only [Nat.mul_one, Nat.add_zero] at h1
    rw [h1]
    simp [List.getD_eq_getElem?_getD, hx, (hg x hm).1]
  · rw [List.length_map] at hi
    obtain ⟨x, hx, hm⟩ := hge i hi
    have := (hg x hm).2
    simpa [List.getD_eq_getElem?_getD, hx] using this
theorem pf_link {cs : List Value} (h : Fits enc Tryz.prog w 28 cs) : ∃ K : LkC, cs = [.int .i64 K.num, .int .i64 K.den, .int .i64 K.sup, .int .i64 K.fed, .int .i64 K.ohm, .int .i64 K.bon, .int .i64 K.boff, .int .i64 K.bohm] := by
  obtain ⟨hl, hf⟩ := h.struct Tryz.underlying28
  rw [cpLinkConfig] at hl
  obtain ⟨x0, x1, x2, x3, x4, x5, x6, x7, rfl⟩ := lst8 hl
  have h0 : Fits enc Tryz.prog w 3 (([x0, x1, x2, x3, x4, x5, x6, x7].drop 0).take (Tryz.prog.cellsOf 3)) := hf 0 _ rfl
  have h1 : Fits enc Tryz.prog w 3 (([x0, x1, x2, x3, x4, x5, x6, x7].drop 1).take (Tryz.prog.cellsOf 3)) := hf 1 _ rfl
  have h2 : Fits enc Tryz.prog w 3 (([x0, x1, x2, x3, x4, x5, x6, x7].drop 2).take (Tryz.prog.cellsOf 3)) := hf 2 _ rfl
  have h3 : Fits enc Tryz.prog w 3 (([x0, x1, x2, x3, x4, x5, x6, x7].drop 3).take (Tryz.prog.cellsOf 3)) := hf 3 _ rfl
  have h4 : Fits enc Tryz.prog w 3 (([x0, x1, x2, x3, x4, x5, x6, x7].drop 4).take (Tryz.prog.cellsOf 3)) := hf 4 _ rfl
  have h5 : Fits enc Tryz.prog w 3 (([x0, x1, x2, x3, x4, x5, x6, x7].drop 5).take (Tryz.prog.cellsOf 3)) := hf 5 _ rfl
  have h6 : Fits enc Tryz.prog w 3 (([x0, x1, x2, x3, x4, x5, x6, x7].drop 6).take (Tryz.prog.cellsOf 3)) := hf 6 _ rfl
  have h7 : Fits enc Tryz.prog w 3 (([x0, x1, x2, x3, x4, x5, x6, x7].drop 7).take (Tryz.prog.cellsOf 3)) := hf 7 _ rfl
  simp only [cpint, List.drop_succ_cons, List.drop_zero, List.take_succ_cons, List.take_zero] at h0 h1 h2 h3 h4 h5 h6 h7
  obtain ⟨l0, e0⟩ := pf_int h0
  simp only [List.cons.injEq, and_true] at e0
  subst e0
  obtain ⟨l1, e1⟩ := pf_int h1
  simp only [List.cons.injEq, and_true] at e1
  subst e1
  obtain ⟨l2, e2⟩ := pf_int h2
  simp only [List.cons.injEq, and_true] at e2
  subst e2
  obtain ⟨l3, e3⟩ := pf_int h3
  simp only [List.cons.injEq, and_true] at e3
  subst e3
  obtain ⟨l4, e4⟩ := pf_int h4
  simp only [List.cons.injEq, and_true] at e4
  subst e4
  obtain ⟨l5, e5⟩ := pf_int h5
  simp only [List.cons.injEq, and_true] at e5
  subst e5
  obtain ⟨l6, e6⟩ := pf_int h6
  simp only [List.cons.injEq, and_true] at e6
  subst e6
  obtain ⟨l7, e7⟩ := pf_int h7
  simp only [List.cons.injEq, and_true] at e7
  subst e7
  exact ⟨⟨l0, l1, l2, l3, l4, l5, l6, l7⟩, rfl⟩
theorem pf_shaft {cs : List Value} (h : Fits enc Tryz.prog w 30 cs) : ∃ a b c, cs = [.int .i64 a, .int .i64 b, .int .i64 c] := by
  obtain ⟨hl, hf⟩ := h.struct Tryz.underlying30
  rw [cpShaftConfig] at hl
  obtain ⟨x0, x1, x2, rfl⟩ := lst3 hl
  have h0 : Fits enc Tryz.prog w 3 (([x0, x1, x2].drop 0).take (Tryz.prog.cellsOf 3)) := hf 0 _ rfl
  have h1 : Fits enc Tryz.prog w 3 (([x0, x1, x2].drop 1).take (Tryz.prog.cellsOf 3)) := hf 1 _ rfl
  have h2 : Fits enc Tryz.prog w 3 (([x0, x1, x2].drop 2).take (Tryz.prog.cellsOf 3)) := hf 2 _ rfl
  simp only [cpint, List.drop_succ_cons, List.drop_zero, List.take_succ_cons, List.take_zero] at h0 h1 h2
  obtain ⟨l0, e0⟩ := pf_int h0
  simp only [List.cons.injEq, and_true] at e0
  subst e0
  obtain ⟨l1, e1⟩ := pf_int h1
  simp only [List.cons.injEq, and_true] at e1
  subst e1
  obtain ⟨l2, e2⟩ := pf_int h2
  simp only [List.cons.injEq, and_true] at e2
  subst e2
  exact ⟨l0, l1, l2, rfl⟩
theorem pf_heat {cs : List Value} (h : Fits enc Tryz.prog w 33 cs) : ∃ (H : Hc) (B1 B2 B3 : Option Addr) (m1 m2 m3 d1 d2 d3 : Nat) (PA : Nat → Option Addr) (PC : Nat → Nat), cs = [.slice B1 m1 d1, .slice B2 m2 d2, .slice B3 m3 d3] ∧ Hy w w.heap.size H B1 B2 B3 m1 m2 m3 PA PC := by
  obtain ⟨hl, hf⟩ := h.struct Tryz.underlying33
  rw [cpHeatConfig] at hl
  obtain ⟨x0, x1, x2, rfl⟩ := lst3 hl
  have h0 : Fits enc Tryz.prog w 22 (([x0, x1, x2].drop 0).take (Tryz.prog.cellsOf 22)) := hf 0 _ rfl
  have h1 : Fits enc Tryz.prog w 22 (([x0, x1, x2].drop 1).take (Tryz.prog.cellsOf 22)) := hf 1 _ rfl
  have h2 : Fits enc Tryz.prog w 31 (([x0, x1, x2].drop 2).take (Tryz.prog.cellsOf 31)) := hf 2 _ rfl
  simp only [cpsint, cpssint, List.drop_succ_cons, List.drop_zero, List.take_succ_cons, List.take_zero] at h0 h1 h2
  obtain ⟨B1, m1, d1, G, e0, k1, s1⟩ := pf_ints h0
  simp only [List.cons.injEq, and_true] at e0
  subst e0
  obtain ⟨B2, m2, d2, Am, e1, k2, s2⟩ := pf_ints h1
  simp only [List.cons.injEq, and_true] at e1
  subst e1
  obtain ⟨B3, m3, d3, Lk, PA, PC, e2, k3, r3, s3⟩ := pf_links h2
  simp only [List.cons.injEq, and_true] at e2
  subst e2
  exact ⟨⟨G, Am, Lk⟩, B1, B2, B3, m1, m2, m3, d1, d2, d3, PA, PC, rfl, s1, s2, r3, s3, k1, k2, k3⟩
theorem pf_plant {cs : List Value} (h : Fits enc Tryz.prog w 35 cs) : ∃ (P : Pc) (X : Pa), cs = [.int .i64 P.m.r, .int .i64 P.m.m, .slice X.A1 X.n1 X.c1, .slice X.A2 X.n2 X.c2, .slice X.A3 X.n3 X.c3, .slice X.A4 X.n4 X.c4, .int .i64 P.m.p, .int .i64 P.m.s, .int .i64 P.m.f, .int .i64 P.l.num, .int .i64 P.l.den, .int .i64 P.l.sup, .int .i64 P.l.fed, .int .i64 P.l.ohm, .int .i64 P.l.bon, .int .i64 P.l.boff, .int .i64 P.l.bohm, .int .i64 P.g, .int .i64 P.d, .int .i64 P.y, .slice X.B1 X.m1 X.d1, .slice X.B2 X.m2 X.d2, .slice X.B3 X.m3 X.d3, .int .i64 P.wi, .int .i64 P.sw] ∧ Py w w.heap.size P X := by
  obtain ⟨hl, hf⟩ := h.struct Tryz.underlying35
  rw [cpPlantConfig] at hl
  obtain ⟨x0, x1, x2, x3, x4, x5, x6, x7, x8, x9, x10, x11, x12, x13, x14, x15, x16, x17, x18, x19, x20, x21, x22, x23, x24, rfl⟩ := lst25 hl
  have h0 : Fits enc Tryz.prog w 26 (([x0, x1, x2, x3, x4, x5, x6, x7, x8, x9, x10, x11, x12, x13, x14, x15, x16, x17, x18, x19, x20, x21, x22, x23, x24].drop 0).take (Tryz.prog.cellsOf 26)) := hf 0 _ rfl
  have h1 : Fits enc Tryz.prog w 28 (([x0, x1, x2, x3, x4, x5, x6, x7, x8, x9, x10, x11, x12, x13, x14, x15, x16, x17, x18, x19, x20, x21, x22, x23, x24].drop 9).take (Tryz.prog.cellsOf 28)) := hf 1 _ rfl
  have h2 : Fits enc Tryz.prog w 30 (([x0, x1, x2, x3, x4, x5, x6, x7, x8, x9, x10, x11, x12, x13, x14, x15, x16, x17, x18, x19, x20, x21, x22, x23, x24].drop 17).take (Tryz.prog.cellsOf 30)) := hf 2 _ rfl
  have h3 : Fits enc Tryz.prog w 33 (([x0, x1, x2, x3, x4, x5, x6, x7, x8, x9, x10, x11, x12, x13, x14, x15, x16, x17, x18, x19, x20, x21, x22, x23, x24].drop 20).take (Tryz.prog.cellsOf 33)) := hf 3 _ rfl
  have h4 : Fits enc Tryz.prog w 3 (([x0, x1, x2, x3, x4, x5, x6, x7, x8, x9, x10, x11, x12, x13, x14, x15, x16, x17, x18, x19, x20, x21, x22, x23, x24].drop 23).take (Tryz.prog.cellsOf 3)) := hf 4 _ rfl
  have h5 : Fits enc Tryz.prog w 3 (([x0, x1, x2, x3, x4, x5, x6, x7, x8, x9, x10, x11, x12, x13, x14, x15, x16, x17, x18, x19, x20, x21, x22, x23, x24].drop 24).take (Tryz.prog.cellsOf 3)) := hf 5 _ rfl
  simp only [cpHeatConfig, cpLinkConfig, cpMachineConfig, cpShaftConfig, cpint, List.drop_succ_cons, List.drop_zero, List.take_succ_cons, List.take_zero] at h0 h1 h2 h3 h4 h5
  obtain ⟨C, A1, A2, A3, A4, n1, n2, n3, n4, c1, c2, c3, c4, e0, hM⟩ := fits_conf h0
  simp only [List.cons.injEq, and_true] at e0
  obtain ⟨q0_0, q0_1, q0_2, q0_3, q0_4, q0_5, q0_6, q0_7, q0_8⟩ := e0
  subst q0_0 q0_1 q0_2 q0_3 q0_4 q0_5 q0_6 q0_7 q0_8
  obtain ⟨K, e1⟩ := pf_link h1
  simp only [List.cons.injEq, and_true] at e1
  obtain ⟨q1_0, q1_1, q1_2, q1_3, q1_4, q1_5, q1_6, q1_7⟩ := e1
  subst q1_0 q1_1 q1_2 q1_3 q1_4 q1_5 q1_6 q1_7
  obtain ⟨g, d, y, e2⟩ := pf_shaft h2
  simp only [List.cons.injEq, and_true] at e2
  obtain ⟨q2_0, q2_1, q2_2⟩ := e2
  subst q2_0 q2_1 q2_2
  obtain ⟨Hh, B1, B2, B3, m1, m2, m3, d1, d2, d3, PA, PC, e3, hH⟩ := pf_heat h3
  simp only [List.cons.injEq, and_true] at e3
  obtain ⟨q3_0, q3_1, q3_2⟩ := e3
  subst q3_0 q3_1 q3_2
  obtain ⟨wi, e4⟩ := pf_int h4
  simp only [List.cons.injEq, and_true] at e4
  subst e4
  obtain ⟨sw, e5⟩ := pf_int h5
  simp only [List.cons.injEq, and_true] at e5
  subst e5
  exact ⟨⟨C, K, g, d, y, Hh, wi, sw⟩, ⟨A1, A2, A3, A4, B1, B2, B3, n1, n2, n3, n4, c1, c2, c3, c4, m1, m2, m3, d1, d2, d3, PA, PC⟩, rfl, hM, hH⟩
theorem pf_dq {cs : List Value} (h : Fits enc Tryz.prog w 39 cs) : ∃ a b, cs = [.int .i64 a, .int .i64 b] := by
  obtain ⟨hl, hf⟩ := h.struct Tryz.underlying39
  rw [cpDQ] at hl
  obtain ⟨x0, x1, rfl⟩ := lst2 hl
  have h0 : Fits enc Tryz.prog w 3 (([x0, x1].drop 0).take (Tryz.prog.cellsOf 3)) := hf 0 _ rfl
  have h1 : Fits enc Tryz.prog w 3 (([x0, x1].drop 1).take (Tryz.prog.cellsOf 3)) := hf 1 _ rfl
  simp only [cpint, List.drop_succ_cons, List.drop_zero, List.take_succ_cons, List.take_zero] at h0 h1
  obtain ⟨a, e0⟩ := pf_int h0
  simp only [List.cons.injEq, and_true] at e0
  subst e0
  obtain ⟨b, e1⟩ := pf_int h1
  simp only [List.cons.injEq, and_true] at e1
  subst e1
  exact ⟨a, b, rfl⟩
theorem pf_mstate {cs : List Value} (h : Fits enc Tryz.prog w 41 cs) : ∃ a b, cs = [.int .i64 a, .int .i64 b] := by
  obtain ⟨hl, hf⟩ := h.struct Tryz.underlying41
  rw [cpMachineState] at hl
  obtain ⟨x0, x1, rfl⟩ := lst2 hl
  have h0 : Fits enc Tryz.prog w 39 (([x0, x1].drop 0).take (Tryz.prog.cellsOf 39)) := hf 0 _ rfl
  simp only [cpDQ, List.drop_zero, List.take_succ_cons, List.take_zero] at h0
  obtain ⟨a, b, e0⟩ := pf_dq h0
  simp only [List.cons.injEq, and_true] at e0
  obtain ⟨q0_0, q0_1⟩ := e0
  subst q0_0 q0_1
  exact ⟨a, b, rfl⟩
theorem pf_lstate {cs : List Value} (h : Fits enc Tryz.prog w 43 cs) : ∃ a b, cs = [.int .i64 a, .bool b] := by
  obtain ⟨hl, hf⟩ := h.struct Tryz.underlying43
  rw [cpLinkState] at hl
  obtain ⟨x0, x1, rfl⟩ := lst2 hl
  have h0 : Fits enc Tryz.prog w 3 (([x0, x1].drop 0).take (Tryz.prog.cellsOf 3)) := hf 0 _ rfl
  have h1 : Fits enc Tryz.prog w 4 (([x0, x1].drop 1).take (Tryz.prog.cellsOf 4)) := hf 1 _ rfl
  simp only [cpbool, cpint, List.drop_succ_cons, List.drop_zero, List.take_succ_cons, List.take_zero] at h0 h1
  obtain ⟨a, e0⟩ := pf_int h0
  simp only [List.cons.injEq, and_true] at e0
  subst e0
  obtain ⟨b, e1⟩ := pf_bool h1
  simp only [List.cons.injEq, and_true] at e1
  subst e1
  exact ⟨a, b, rfl⟩
theorem pf_sstate {cs : List Value} (h : Fits enc Tryz.prog w 45 cs) : ∃ a b, cs = [.int .i64 a, .int .i64 b] := by
  obtain ⟨hl, hf⟩ := h.struct Tryz.underlying45
  rw [cpShaftState] at hl
  obtain ⟨x0, x1, rfl⟩ := lst2 hl
  have h0 : Fits enc Tryz.prog w 3 (([x0, x1].drop 0).take (Tryz.prog.cellsOf 3)) := hf 0 _ rfl
  have h1 : Fits enc Tryz.prog w 3 (([x0, x1].drop 1).take (Tryz.prog.cellsOf 3)) := hf 1 _ rfl
  simp only [cpint, List.drop_succ_cons, List.drop_zero, List.take_succ_cons, List.take_zero] at h0 h1
  obtain ⟨a, e0⟩ := pf_int h0
  simp only [List.cons.injEq, and_true] at e0
  subst e0
  obtain ⟨b, e1⟩ := pf_int h1
  simp only [List.cons.injEq, and_true] at e1
  subst e1
  exact ⟨a, b, rfl⟩
theorem pf_pstate {cs : List Value} (h : Fits enc Tryz.prog w 47 cs) : ∃ (s : Ps) (YA : Option Addr) (yn yc : Nat), cs = [.int .i64 s.fd, .int .i64 s.fq, .int .i64 s.v, .bool s.b, .int .i64 s.po, .int .i64 s.sp, .slice YA yn yc, .int .i64 s.tn] ∧ yn = s.h.length ∧ Sl w w.heap.size 1 YA (rows s.h) := by
  obtain ⟨hl, hf⟩ := h.struct Tryz.underlying47
  rw [cpPlantState] at hl
  obtain ⟨x0, x1, x2, x3, x4, x5, x6, x7, rfl⟩ := lst8 hl
  have h0 : Fits enc Tryz.prog w 41 (([x0, x1, x2, x3, x4, x5, x6, x7].drop 0).take (Tryz.prog.cellsOf 41)) := hf 0 _ rfl
  have h1 : Fits enc Tryz.prog w 43 (([x0, x1, x2, x3, x4, x5, x6, x7].drop 2).take (Tryz.prog.cellsOf 43)) := hf 1 _ rfl
  have h2 : Fits enc Tryz.prog w 45 (([x0, x1, x2, x3, x4, x5, x6, x7].drop 4).take (Tryz.prog.cellsOf 45)) := hf 2 _ rfl
  have h3 : Fits enc Tryz.prog w 22 (([x0, x1, x2, x3, x4, x5, x6, x7].drop 6).take (Tryz.prog.cellsOf 22)) := hf 3 _ rfl
  have h4 : Fits enc Tryz.prog w 3 (([x0, x1, x2, x3, x4, x5, x6, x7].drop 7).take (Tryz.prog.cellsOf 3)) := hf 4 _ rfl
  simp only [cpLinkState, cpMachineState, cpShaftState, cpint, cpsint, List.drop_succ_cons, List.drop_zero, List.take_succ_cons, List.take_zero] at h0 h1 h2 h3 h4
  obtain ⟨fd, fq, e0⟩ := pf_mstate h0
  simp only [List.cons.injEq, and_true] at e0
  obtain ⟨q0_0, q0_1⟩ := e0
  subst q0_0 q0_1
  obtain ⟨v, b, e1⟩ := pf_lstate h1
  simp only [List.cons.injEq, and_true] at e1
  obtain ⟨q1_0, q1_1⟩ := e1
  subst q1_0 q1_1
  obtain ⟨po, sp, e2⟩ := pf_sstate h2
  simp only [List.cons.injEq, and_true] at e2
  obtain ⟨q2_0, q2_1⟩ := e2
  subst q2_0 q2_1
  obtain ⟨YA, yn, yc, Y, e3, ky, sy⟩ := pf_ints h3
  simp only [List.cons.injEq, and_true] at e3
  subst e3
  obtain ⟨tn, e4⟩ := pf_int h4
  simp only [List.cons.injEq, and_true] at e4
  subst e4
  exact ⟨⟨fd, fq, v, b, po, sp, Y, tn⟩, YA, yn, yc, rfl, ky, sy⟩
theorem pf_edge {cs : List Value} (h : Fits enc Tryz.prog w 143 cs) : ∃ e : I.Ed, cs = e.row ∧ True := by
  obtain ⟨hl, hf⟩ := h.struct Tryz.underlying143
  rw [cpGateEdge] at hl
  obtain ⟨x0, x1, x2, rfl⟩ := lst3 hl
  have h0 : Fits enc Tryz.prog w 3 (([x0, x1, x2].drop 0).take (Tryz.prog.cellsOf 3)) := hf 0 _ rfl
  have h1 : Fits enc Tryz.prog w 3 (([x0, x1, x2].drop 1).take (Tryz.prog.cellsOf 3)) := hf 1 _ rfl
  have h2 : Fits enc Tryz.prog w 4 (([x0, x1, x2].drop 2).take (Tryz.prog.cellsOf 4)) := hf 2 _ rfl
  simp only [cpbool, cpint, List.drop_succ_cons, List.drop_zero, List.take_succ_cons, List.take_zero] at h0 h1 h2
  obtain ⟨t, e0⟩ := pf_int h0
  simp only [List.cons.injEq, and_true] at e0
  subst e0
  obtain ⟨s, e1⟩ := pf_int h1
  simp only [List.cons.injEq, and_true] at e1
  subst e1
  obtain ⟨o, e2⟩ := pf_bool h2
  simp only [List.cons.injEq, and_true] at e2
  subst e2
  exact ⟨⟨t, s, o⟩, rfl, trivial⟩
theorem pf_six {cs : List Value} (h : Fits enc Tryz.prog w 48 cs) : ∃ b0 b1 b2 b3 b4 b5, cs = [.bool b0, .bool b1, .bool b2, .bool b3, .bool b4, .bool b5] := by
  obtain ⟨hl, hf⟩ := h.array Tryz.underlying48
  rw [cpsixbool] at hl
  obtain ⟨a, b, c, d, e, f, rfl⟩ := lst6 hl
  have h0 := hf 0 (by decide)
  have h1 := hf 1 (by decide)
  have h2 := hf 2 (by decide)
  have h3 := hf 3 (by decide)
  have h4 := hf 4 (by decide)
  have h5 := hf 5 (by decide)
  simp only [cpbool, Nat.mul_one, List.drop_succ_cons, List.drop_zero, List.take_succ_cons, List.take_zero] at h0 h1 h2 h3 h4 h5
  obtain ⟨b0, e0⟩ := pf_bool h0
  obtain ⟨b1, e1⟩ := pf_bool h1
  obtain ⟨b2, e2⟩ := pf_bool h2
  obtain ⟨b3, e3⟩ := pf_bool h3
  obtain ⟨b4, e4⟩ := pf_bool h4
  obtain ⟨b5, e5⟩ := pf_bool h5
  simp only [List.cons.injEq, and_true] at e0 e1 e2 e3 e4 e5
  subst e0 e1 e2 e3 e4 e5
  exact ⟨b0, b1, b2, b3, b4, b5, rfl⟩
theorem pf_edges {cs : List Value} (h : Fits enc Tryz.prog w 49 cs) : ∃ (A : Option Addr) (n c : Nat) (es : List I.Ed), cs = [.slice A n c] ∧ n = es.length ∧ Sl w w.heap.size 3 A (es.map I.Ed.row) := by
  obtain ⟨A, n, c, X, e, hn, _, hS, _⟩ := h.rows I.Ed.row (fun _ => True) Tryz.underlying49 cpGateEdge (by decide) (fun r _ hr => pf_edge hr)
  exact ⟨A, n, c, X, e, hn, hS⟩
theorem pf_gates {cs : List Value} (h : Fits enc Tryz.prog w 51 cs) : ∃ per b0 b1 b2 b3 b4 b5 GA gn gc, ∃ es : List I.Ed, cs = [.int .i64 per, .bool b0, .bool b1, .bool b2, .bool b3, .bool b4, .bool b5, .slice GA gn gc] ∧ gn = es.length ∧ Sl w w.heap.size 3 GA (es.map I.Ed.row) := by
  obtain ⟨hl, hf⟩ := h.struct Tryz.underlying51
  rw [cpGates] at hl
  obtain ⟨x0, x1, x2, x3, x4, x5, x6, x7, rfl⟩ := lst8 hl
  have h0 : Fits enc Tryz.prog w 3 (([x0, x1, x2, x3, x4, x5, x6, x7].drop 0).take (Tryz.prog.cellsOf 3)) := hf 0 _ rfl
  have h1 : Fits enc Tryz.prog w 48 (([x0, x1, x2, x3, x4, x5, x6, x7].drop 1).take (Tryz.prog.cellsOf 48)) := hf 1 _ rfl
  have h2 : Fits enc Tryz.prog w 49 (([x0, x1, x2, x3, x4, x5, x6, x7].drop 7).take (Tryz.prog.cellsOf 49)) := hf 2 _ rfl
  simp only [cpint, cpsGateEdge, cpsixbool, List.drop_succ_cons, List.drop_zero, List.take_succ_cons, List.take_zero] at h0 h1 h2
  obtain ⟨per, e0⟩ := pf_int h0
  simp only [List.cons.injEq, and_true] at e0
  subst e0
  obtain ⟨b0, b1, b2, b3, b4, b5, e1⟩ := pf_six h1
  simp only [List.cons.injEq, and_true] at e1
  obtain ⟨q1_0, q1_1, q1_2, q1_3, q1_4, q1_5⟩ := e1
  subst q1_0 q1_1 q1_2 q1_3 q1_4 q1_5
  obtain ⟨GA, gn, gc, es, e2, kg, sg⟩ := pf_edges h2
  simp only [List.cons.injEq, and_true] at e2
  subst e2
  exact ⟨per, b0, b1, b2, b3, b4, b5, GA, gn, gc, es, rfl, kg, sg⟩
theorem pf_pinput {cs : List Value} (h : Fits enc Tryz.prog w 53 cs) : ∃ (z : Pi) (GA : Option Addr) (gn gc : Nat), cs = [.int .i64 z.per, .bool z.b0, .bool z.b1, .bool z.b2, .bool z.b3, .bool z.b4, .bool z.b5, .slice GA gn gc, .int .i64 z.ld, .int .i64 z.amb, .bool z.k0, .bool z.k1, .bool z.k2, .bool z.k3, .bool z.k4, .bool z.k5, .bool z.de, .bool z.nb] ∧ gn = z.es.length ∧ Sl w w.heap.size 3 GA (z.es.map I.Ed.row) := by
  obtain ⟨hl, hf⟩ := h.struct Tryz.underlying53
  rw [cpPlantInput] at hl
  obtain ⟨x0, x1, x2, x3, x4, x5, x6, x7, x8, x9, x10, x11, x12, x13, x14, x15, x16, x17, rfl⟩ := lst18 hl
  have h0 : Fits enc Tryz.prog w 51 (([x0, x1, x2, x3, x4, x5, x6, x7, x8, x9, x10, x11, x12, x13, x14, x15, x16, x17].drop 0).take (Tryz.prog.cellsOf 51)) := hf 0 _ rfl
  have h1 : Fits enc Tryz.prog w 3 (([x0, x1, x2, x3, x4, x5, x6, x7, x8, x9, x10, x11, x12, x13, x14, x15, x16, x17].drop 8).take (Tryz.prog.cellsOf 3)) := hf 1 _ rfl
  have h2 : Fits enc Tryz.prog w 3 (([x0, x1, x2, x3, x4, x5, x6, x7, x8, x9, x10, x11, x12, x13, x14, x15, x16, x17].drop 9).take (Tryz.prog.cellsOf 3)) := hf 2 _ rfl
  have h3 : Fits enc Tryz.prog w 48 (([x0, x1, x2, x3, x4, x5, x6, x7, x8, x9, x10, x11, x12, x13, x14, x15, x16, x17].drop 10).take (Tryz.prog.cellsOf 48)) := hf 3 _ rfl
  have h4 : Fits enc Tryz.prog w 4 (([x0, x1, x2, x3, x4, x5, x6, x7, x8, x9, x10, x11, x12, x13, x14, x15, x16, x17].drop 16).take (Tryz.prog.cellsOf 4)) := hf 4 _ rfl
  have h5 : Fits enc Tryz.prog w 4 (([x0, x1, x2, x3, x4, x5, x6, x7, x8, x9, x10, x11, x12, x13, x14, x15, x16, x17].drop 17).take (Tryz.prog.cellsOf 4)) := hf 5 _ rfl
  simp only [cpGates, cpbool, cpint, cpsixbool, List.drop_succ_cons, List.drop_zero, List.take_succ_cons, List.take_zero] at h0 h1 h2 h3 h4 h5
  obtain ⟨per, b0, b1, b2, b3, b4, b5, GA, gn, gc, es, e0, kg, sg⟩ := pf_gates h0
  simp only [List.cons.injEq, and_true] at e0
  obtain ⟨q0_0, q0_1, q0_2, q0_3, q0_4, q0_5, q0_6, q0_7⟩ := e0
  subst q0_0 q0_1 q0_2 q0_3 q0_4 q0_5 q0_6 q0_7
  obtain ⟨ld, e1⟩ := pf_int h1
  simp only [List.cons.injEq, and_true] at e1
  subst e1
  obtain ⟨amb, e2⟩ := pf_int h2
  simp only [List.cons.injEq, and_true] at e2
  subst e2
  obtain ⟨k0, k1, k2, k3, k4, k5, e3⟩ := pf_six h3
  simp only [List.cons.injEq, and_true] at e3
  obtain ⟨q3_0, q3_1, q3_2, q3_3, q3_4, q3_5⟩ := e3
  subst q3_0 q3_1 q3_2 q3_3 q3_4 q3_5
  obtain ⟨de, e4⟩ := pf_bool h4
  simp only [List.cons.injEq, and_true] at e4
  subst e4
  obtain ⟨nb, e5⟩ := pf_bool h5
  simp only [List.cons.injEq, and_true] at e5
  subst e5
  exact ⟨⟨per, b0, b1, b2, b3, b4, b5, es, ld, amb, k0, k1, k2, k3, k4, k5, de, nb⟩, GA, gn, gc, rfl, kg, sg⟩
set_option maxRecDepth 100000 in
theorem open_plant {r : Reach} {base : Nat} {v : Value} {d : DataW H} {p : List MemPlace} (hv : Value.okWide Tryz.prog w r base 35 v) (h : DataW.Trod enc Tryz.prog w 0 (fun _ => true) true 35 v d p) : ∃ (P : Pc) (X : Pa), v = .agg #[.int .i64 P.m.r, .int .i64 P.m.m, .slice X.A1 X.n1 X.c1, .slice X.A2 X.n2 X.c2, .slice X.A3 X.n3 X.c3, .slice X.A4 X.n4 X.c4, .int .i64 P.m.p, .int .i64 P.m.s, .int .i64 P.m.f, .int .i64 P.l.num, .int .i64 P.l.den, .int .i64 P.l.sup, .int .i64 P.l.fed, .int .i64 P.l.ohm, .int .i64 P.l.bon, .int .i64 P.l.boff, .int .i64 P.l.bohm, .int .i64 P.g, .int .i64 P.d, .int .i64 P.y, .slice X.B1 X.m1 X.d1, .slice X.B2 X.m2 X.d2, .slice X.B3 X.m3 X.d3, .int .i64 P.wi, .int .i64 P.sw] ∧ Py w w.heap.size P X := by
  obtain ⟨cs, rfl, _⟩ := okWide_struct Tryz.underlying35 hv
  obtain ⟨P, X, hcs, hL⟩ := pf_plant (Fits.of h)
  exact ⟨P, X, agg_of hcs, hL⟩
set_option maxRecDepth 100000 in
theorem open_pstate {r : Reach} {base : Nat} {v : Value} {d : DataW H} {p : List MemPlace} (hv : Value.okWide Tryz.prog w r base 47 v) (h : DataW.Trod enc Tryz.prog w 0 (fun _ => true) true 47 v d p) : ∃ (s : Ps) (YA : Option Addr) (yn yc : Nat), v = .agg #[.int .i64 s.fd, .int .i64 s.fq, .int .i64 s.v, .bool s.b, .int .i64 s.po, .int .i64 s.sp, .slice YA yn yc, .int .i64 s.tn] ∧ yn = s.h.length ∧ Sl w w.heap.size 1 YA (rows s.h) := by
  obtain ⟨cs, rfl, _⟩ := okWide_struct Tryz.underlying47 hv
  obtain ⟨s, YA, yn, yc, hcs, h1, h2⟩ := pf_pstate (Fits.of h)
  exact ⟨s, YA, yn, yc, agg_of hcs, h1, h2⟩
set_option maxRecDepth 100000 in
theorem open_pinput {r : Reach} {base : Nat} {v : Value} {d : DataW H} {p : List MemPlace} (hv : Value.okWide Tryz.prog w r base 53 v) (h : DataW.Trod enc Tryz.prog w 0 (fun _ => true) true 53 v d p) : ∃ (z : Pi) (GA : Option Addr) (gn gc : Nat), v = .agg #[.int .i64 z.per, .bool z.b0, .bool z.b1, .bool z.b2, .bool z.b3, .bool z.b4, .bool z.b5, .slice GA gn gc, .int .i64 z.ld, .int .i64 z.amb, .bool z.k0, .bool z.k1, .bool z.k2, .bool z.k3, .bool z.k4, .bool z.k5, .bool z.de, .bool z.nb] ∧ gn = z.es.length ∧ Sl w w.heap.size 3 GA (z.es.map I.Ed.row) := by
  obtain ⟨cs, rfl, _⟩ := okWide_struct Tryz.underlying53 hv
  obtain ⟨z, GA, gn, gc, hcs, h1, h2⟩ := pf_pinput (Fits.of h)
  exact ⟨z, GA, gn, gc, agg_of hcs, h1, h2⟩
end
end Go.Proofs.YtpfkiohknpeifaaGreat
