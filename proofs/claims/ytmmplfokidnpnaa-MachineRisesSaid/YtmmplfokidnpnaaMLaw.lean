/- The statements' own helpers: line, example, awake, large. -/
import Derived.Test.YtmmplfokidnpnaaMTorque
import Derived.Test.YtmmplfokidnpnaaMStep
namespace Go.Proofs.Ytmmplfokidnpnaa
open Go.RowKit
/-- Too large for a statement. -/
def lgB (n1 n2 n3 n4 : Nat) : Bool := decide (100 < n1 ∨ 100 < n2 ∨ 100 < n3 ∨ 100 < n4)
/-- The example's configuration. -/
def cex : Cf := ⟨500, 1000, [-2000, 0, 2000], [-1000, 0, 1000], [-2000, 0, 2000], [-1000, 0, 1000], 2, 1000, 100⟩
theorem cex_ok : cfCode cex = 0 := by decide +kernel
theorem load_curve {w : World} {g : Nat} {t : TypeId} {a b : Value} (h : Blk w g t #[a, b]) : (loadVar 24 ⟨g, 0, none⟩).run Try.prog w = .ok (.agg #[a, b]) w := by
  obtain ⟨k0, k1⟩ := h.c2
  simp [go_sem, k0, k1]
theorem load_conf {w : World} {g : Nat} {t : TypeId} {a b c d e f x y z : Value} (h : Blk w g t #[a, b, c, d, e, f, x, y, z]) : (loadVar 26 ⟨g, 0, none⟩).run Try.prog w = .ok (.agg #[a, b, c, d, e, f, x, y, z]) w := by
  obtain ⟨k0, k1, k2, k3, k4, k5, k6, k7, k8⟩ := h.c9
  simp [go_sem, k0, k1, k2, k3, k4, k5, k6, k7, k8]
theorem Sl.blk3 {w : World} {g : Nat} {t : TypeId} {a b c : Int} (h : Blk w g t #[.int .i64 a, .int .i64 b, .int .i64 c]) : Sl w w.heap.size 1 (some ⟨g, 0, none⟩) (rows [a, b, c]) := by
  refine ⟨by simp [rows], fun _ => ⟨_, rfl, h.lt, fun k r hr j u hu => ?_⟩⟩
  have hadd : (⟨g, 0, none⟩ : Addr).add (k * 1 + j) = ⟨g, k * 1 + j, none⟩ := by
    unfold Addr.add
    split <;> simp_all
  rw [hadd, h.cell]
  have := flat_get 1 (rows [a, b, c]) (by simp [rows]) k r hr j u hu
  have hf : (rows [a, b, c]).flatten = [.int .i64 a, .int .i64 b, .int .i64 c] := rfl
  rw [hf] at this
  simpa using this
theorem Sl.far {w : World} {B size : Nat} {ad : Addr} {rs : List (List Value)} (h : Sl w B size (some ad) rs) {p : Addr} (hp : p.block ≠ ad.block) (u : Value) : Sl (w.setCell p u) B size (some ad) rs := by
  refine ⟨h.len, fun hn => ?_⟩
  obtain ⟨ad', e, hb, hc⟩ := h.at_ hn
  injection e with e
  subst e
  refine ⟨_, rfl, hb, fun k r hr j v hv => ?_⟩
  exact (World.cell?_of_block (Below.heap_setCell w p u _ (by rw [block_of_add]; exact fun h => hp h.symm))).trans (hc k r hr j v hv)
set_option maxRecDepth 100000 in
theorem line_walk (w : World) : Calls Try.prog 65 #[] w fun e w' =>
    ∃ a1 a2 : Addr, e = .returned (.agg #[.slice (some a1) 3 3, .slice (some a2) 3 3]) ∧ Sl w' w'.heap.size 1 (some a1) (rows [-2000, 0, 2000]) ∧ Sl w' w'.heap.size 1 (some a2) (rows [-1000, 0, 1000]) ∧ w.heap.size ≤ a1.block ∧ w.heap.size ≤ a2.block ∧ Below w.heap.size w w' := by
  go_enter Try.func65, Try.ntmps65
  have g0 := ((Blk.new w 24 #[.slice (some ⟨w.heap.size + 1, 0, none⟩) 3 3, .slice (some ⟨w.heap.size + 1 + 1, 0, none⟩) 3 3]).alloc (.cells #[.int .i64 (-2000), .int .i64 0, .int .i64 2000] 3)).alloc (.cells #[.int .i64 (-1000), .int .i64 0, .int .i64 1000] 3)
  have g1 := (Blk.new' (w := w.alloc (.cells #[.slice (some ⟨w.heap.size + 1, 0, none⟩) 3 3, .slice (some ⟨w.heap.size + 1 + 1, 0, none⟩) 3 3] 24)) (t := 3) (cs := #[.int .i64 (-2000), .int .i64 0, .int .i64 2000]) (g := w.heap.size + 1) (by simp)).alloc (.cells #[.int .i64 (-1000), .int .i64 0, .int .i64 1000] 3)
  have g2 := Blk.new' (w := (w.alloc (.cells #[.slice (some ⟨w.heap.size + 1, 0, none⟩) 3 3, .slice (some ⟨w.heap.size + 1 + 1, 0, none⟩) 3 3] 24)).alloc (.cells #[.int .i64 (-2000), .int .i64 0, .int .i64 2000] 3)) (t := 3) (cs := #[.int .i64 (-1000), .int .i64 0, .int .i64 1000]) (g := w.heap.size + 1 + 1) (by simp)
  have hb := (((Below.refl w.heap.size w).alloc (Nat.le_refl _) (.cells #[.slice (some ⟨w.heap.size + 1, 0, none⟩) 3 3, .slice (some ⟨w.heap.size + 1 + 1, 0, none⟩) 3 3] 24)).alloc (by simp) (.cells #[.int .i64 (-2000), .int .i64 0, .int .i64 2000] 3)).alloc (by simp <;> omega) (.cells #[.int .i64 (-1000), .int .i64 0, .int .i64 1000] 3)
  go_wp2
  exact bodyPost_ret (ret_cell rfl rfl (load_curve g0)) rfl ⟨_, _, rfl, Sl.blk3 g1, Sl.blk3 g2, by simp, by simp; omega, hb⟩
set_option maxRecDepth 100000 in
theorem example_walk (w : World) : Calls Try.prog 37 #[] w fun e w' =>
    ∃ a1 a2 a3 a4, e = .returned (.agg #[.int .i64 500, .int .i64 1000, .slice (some a1) 3 3, .slice (some a2) 3 3, .slice (some a3) 3 3, .slice (some a4) 3 3, .int .i64 2, .int .i64 1000, .int .i64 100]) ∧ Ly w' w'.heap.size cex (some a1) (some a2) (some a3) (some a4) 3 3 3 3 ∧ Below w.heap.size w w' := by
  have g0 := Blk.new w 26 #[.int .i64 0, .int .i64 0, .slice none 0 0, .slice none 0 0, .slice none 0 0, .slice none 0 0, .int .i64 0, .int .i64 0, .int .i64 0]
  have hb0 := (Below.refl w.heap.size w).alloc (Nat.le_refl _) (.cells #[.int .i64 0, .int .i64 0, .slice none 0 0, .slice none 0 0, .slice none 0 0, .slice none 0 0, .int .i64 0, .int .i64 0, .int .i64 0] 26)
  go_enter Try.func37, Try.ntmps37
  go_wp2_with fail
  refine (line_walk _).mono ?_
  rintro e w1 ⟨a1, a2, rfl, s1, s2, p1, p2, hb1⟩
  have g1 := g0.below hb1 g0.lt
  have HB1 := hb0.trans (hb1.mono hb0.size)
  have l1 := g1.lt
  go_wp2_with fail
  refine (line_walk _).mono ?_
  rintro e w2 ⟨a3, a4, rfl, s3, s4, p3, p4, hb2⟩
  have g2 := g1.below hb2 g1.lt
  have HB2 := HB1.trans (hb2.mono HB1.size)
  have l2 := g2.lt
  obtain ⟨z0, z1, z2, z3, z4, z5, z6, z7, z8⟩ := g2.c9
  have f0 := g2.frozen 0
  have f1 := g2.frozen 1
  have f2 := g2.frozen 2
  have f3 := g2.frozen 3
  have f4 := g2.frozen 4
  have f5 := g2.frozen 5
  have f6 := g2.frozen 6
  have f7 := g2.frozen 7
  have f8 := g2.frozen 8
  go_wp2
  have q1 : w.heap.size ≠ a1.block := by simp at p1; omega
  have q2 : w.heap.size ≠ a2.block := by simp at p2; omega
  have q3 : w.heap.size ≠ a3.block := by omega
  have q4 : w.heap.size ≠ a4.block := by omega
  refine bodyPost_ret (ret_cell rfl rfl (load_conf (((((((((g2.set_ 0 _).set_ 1 _).set_ 2 _).set_ 3 _).set_ 4 _).set_ 5 _).set_ 6 _).set_ 7 _).set_ 8 _))) rfl ⟨a1, a2, a3, a4, rfl, ?_, ?_⟩
  · refine ⟨Sl.more (B := w1.heap.size) ?_ (by simp; exact hb2.size), Sl.more (B := w1.heap.size) ?_ (by simp; exact hb2.size), Sl.more (B := w2.heap.size) ?_ (by simp), Sl.more (B := w2.heap.size) ?_ (by simp), rfl, rfl, rfl, rfl⟩
    · iterate 9 (with_reducible refine Sl.far ?_ (by exact q1) _)
      exact s1.below hb2
    · iterate 9 (with_reducible refine Sl.far ?_ (by exact q2) _)
      exact s2.below hb2
    · iterate 9 (with_reducible refine Sl.far ?_ (by exact q3) _)
      exact s3
    · iterate 9 (with_reducible refine Sl.far ?_ (by exact q4) _)
      exact s4
  · exact ((((((((HB2.setCell (by simp) _).setCell (by simp) _).setCell (by simp) _).setCell (by simp) _).setCell (by simp) _).setCell (by simp) _).setCell (by simp) _).setCell (by simp) _).setCell (by simp) _
set_option maxRecDepth 100000 in
theorem large_walk (C : Cf) (A1 A2 A3 A4 : Option Addr) (n1 n2 n3 n4 c1 c2 c3 c4 : Nat) (w : World) : Calls Try.prog 13 #[.agg #[.int .i64 C.r, .int .i64 C.m, .slice A1 n1 c1, .slice A2 n2 c2, .slice A3 n3 c3, .slice A4 n4 c4, .int .i64 C.p, .int .i64 C.s, .int .i64 C.f]] w fun e w' => e = .returned (.bool (lgB n1 n2 n3 n4)) ∧ Below w.heap.size w w' := by
  have hb0 := (Below.refl w.heap.size w).alloc (Nat.le_refl _) (.cells #[.int .i64 C.r, .int .i64 C.m, .slice A1 n1 c1, .slice A2 n2 c2, .slice A3 n3 c3, .slice A4 n4 c4, .int .i64 C.p, .int .i64 C.s, .int .i64 C.f] 26)
  go_enter Try.func13, Try.ntmps13
  by_cases h1 : (100 : Int) < n1
  · go_wp2
    go_ret
    exact ⟨congrArg (fun x => Ending.returned (.bool x)) (by symm; unfold lgB; rw [decide_eq_true_eq]; omega), hb0⟩
  by_cases h2 : (100 : Int) < n2
  · go_wp2
    go_ret
    exact ⟨congrArg (fun x => Ending.returned (.bool x)) (by symm; unfold lgB; rw [decide_eq_true_eq]; omega), hb0⟩
  by_cases h3 : (100 : Int) < n3
  · go_wp2
    go_ret
    exact ⟨congrArg (fun x => Ending.returned (.bool x)) (by symm; unfold lgB; rw [decide_eq_true_eq]; omega), hb0⟩
  by_cases h4 : (100 : Int) < n4
  · go_wp2
    go_ret
    exact ⟨congrArg (fun x => Ending.returned (.bool x)) (by symm; unfold lgB; rw [decide_eq_true_eq]; omega), hb0⟩
  · go_wp2
    go_ret
    exact ⟨congrArg (fun x => Ending.returned (.bool x)) (by symm; unfold lgB; rw [decide_eq_false_iff_not]; omega), hb0⟩
end Go.Proofs.Ytmmplfokidnpnaa
