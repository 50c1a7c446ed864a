/- The walk of the statement MachineChecks. -/
import Derived.Test.YtmmplfokidnpnaaMAwake
import Derived.Deep.RegionHeld3
namespace Go.Proofs.Ytmmplfokidnpnaa
open Go.RowKit
/-- A configuration, a state and currents in memory. -/
structure MS (w0 w : World) (C : Cf) (a1 a2 a3 a4 : Addr) (n k c1 c2 c3 c4 : Nat) (g g' : Nat) (x y x' y' : Int) : Prop where
  p : Blk w w0.heap.size 26 #[.int .i64 C.r, .int .i64 C.m, .slice (some a1) n c1, .slice (some a2) n c2, .slice (some a3) k c3, .slice (some a4) k c4, .int .i64 C.p, .int .i64 C.s, .int .i64 C.f]
  q : Blk w g 33 #[.int .i64 x, .int .i64 y]
  i : Blk w g' 31 #[.int .i64 x', .int .i64 y']
  b : Below w0.heap.size w0 w
section
variable {w0 w w' : World} {C : Cf} {a1 a2 a3 a4 : Addr} {n k c1 c2 c3 c4 : Nat} {g g' : Nat} {x y x' y' : Int}
theorem MS.all (h : MS w0 w C a1 a2 a3 a4 n k c1 c2 c3 c4 g g' x y x' y') : MS w0 w C a1 a2 a3 a4 n k c1 c2 c3 c4 g g' x y x' y' ∧ w.cell? ⟨w0.heap.size, 0, none⟩ = some (.int .i64 C.r) ∧ w.cell? ⟨w0.heap.size, 1, none⟩ = some (.int .i64 C.m) ∧ w.cell? ⟨w0.heap.size, 2, none⟩ = some (.slice (some a1) n c1) ∧ w.cell? ⟨w0.heap.size, 3, none⟩ = some (.slice (some a2) n c2) ∧ w.cell? ⟨w0.heap.size, 4, none⟩ = some (.slice (some a3) k c3) ∧ w.cell? ⟨w0.heap.size, 5, none⟩ = some (.slice (some a4) k c4) ∧ w.cell? ⟨w0.heap.size, 6, none⟩ = some (.int .i64 C.p) ∧ w.cell? ⟨w0.heap.size, 7, none⟩ = some (.int .i64 C.s) ∧ w.cell? ⟨w0.heap.size, 8, none⟩ = some (.int .i64 C.f) ∧ w.cell? ⟨g, 0, none⟩ = some (.int .i64 x) ∧ w.cell? ⟨g, 1, none⟩ = some (.int .i64 y) ∧ w.cell? ⟨g', 0, none⟩ = some (.int .i64 x') ∧ w.cell? ⟨g', 1, none⟩ = some (.int .i64 y') := ⟨h, h.p.cell 0, h.p.cell 1, h.p.cell 2, h.p.cell 3, h.p.cell 4, h.p.cell 5, h.p.cell 6, h.p.cell 7, h.p.cell 8, h.q.cell 0, h.q.cell 1, h.i.cell 0, h.i.cell 1⟩
theorem MS.drew (h : MS w0 w C a1 a2 a3 a4 n k c1 c2 c3 c4 g g' x y x' y') : MS w0 w.drew C a1 a2 a3 a4 n k c1 c2 c3 c4 g g' x y x' y' := ⟨h.p.drew, h.q.drew, h.i.drew, h.b.drew⟩
theorem MS.one {Q : Prop} (h : MS w0 w C a1 a2 a3 a4 n k c1 c2 c3 c4 g g' x y x' y' ∧ Q) : MS w0 w C a1 a2 a3 a4 n k c1 c2 c3 c4 g g' x y x' y' := h.1
theorem MS.below (hb : Below w.heap.size w w') (h : MS w0 w C a1 a2 a3 a4 n k c1 c2 c3 c4 g g' x y x' y') : MS w0 w' C a1 a2 a3 a4 n k c1 c2 c3 c4 g g' x y x' y' := ⟨h.p.below hb h.p.lt, h.q.below hb h.q.lt, h.i.below hb h.i.lt, h.b.trans (hb.mono h.b.size)⟩
end
theorem cur_start {C : Cf} (ok : CfOk C) : curD C C.m = 0 ∧ curQ C 0 = 0 := by
  have hm := ok.m
  have e1 := mc_ends ok.d
  have e2 := mc_ends ok.q
  have h1 : clipI C.m (-1073741824) 1073741824 = C.m := by unfold clipI; rw [if_neg (by omega), if_neg (by omega)]
  have h2 : clipI 0 (-1073741824) 1073741824 = 0 := by decide
  constructor
  · show cvAt C.dx C.dy (inX C.dx (clipI C.m (-1073741824) 1073741824 - C.m)) = 0
    rw [h1, Int.sub_self, inX_same (by omega) (by omega)]
    exact ok.d.zero
  · show cvAt C.qx C.qy (inX C.qx (clipI 0 (-1073741824) 1073741824)) = 0
    rw [h2, inX_same (by omega) (by omega)]
    exact ok.q.zero
theorem torq_start {C : Cf} (ok : CfOk C) : torq C C.m 0 = 0 := by
  obtain ⟨h1, h2⟩ := cur_start ok
  unfold torq
  rw [h1, h2, Int.mul_zero, Int.mul_zero, Int.sub_self, Int.mul_zero, Int.zero_tdiv]
  decide
set_option maxRecDepth 100000 in
set_option maxHeartbeats 3200000 in
theorem machineChecks_large (C : Cf) (A1 A2 A3 A4 : Option Addr) (n1 n2 n3 n4 c1 c2 c3 c4 : Nat) (w : World) (L : Ly w w.heap.size C A1 A2 A3 A4 n1 n2 n3 n4) (hl : lgB n1 n2 n3 n4 = true) :
    Calls Try.prog 3 #[.agg #[.int .i64 C.r, .int .i64 C.m, .slice A1 n1 c1, .slice A2 n2 c2, .slice A3 n3 c3, .slice A4 n4 c4, .int .i64 C.p, .int .i64 C.s, .int .i64 C.f]] w fun e w' => e = .returned (.bool true) ∧ Below w.heap.size w w' := by
  have hb0 := (Below.refl w.heap.size w).alloc (Nat.le_refl _) (.cells #[.int .i64 C.r, .int .i64 C.m, .slice A1 n1 c1, .slice A2 n2 c2, .slice A3 n3 c3, .slice A4 n4 c4, .int .i64 C.p, .int .i64 C.s, .int .i64 C.f] 26)
  have g0 := Blk.new w 26 #[.int .i64 C.r, .int .i64 C.m, .slice A1 n1 c1, .slice A2 n2 c2, .slice A3 n3 c3, .slice A4 n4 c4, .int .i64 C.p, .int .i64 C.s, .int .i64 C.f]
  have L0 := L.new (.cells #[.int .i64 C.r, .int .i64 C.m, .slice A1 n1 c1, .slice A2 n2 c2, .slice A3 n3 c3, .slice A4 n4 c4, .int .i64 C.p, .int .i64 C.s, .int .i64 C.f] 26)
  have hla := fun W => large_walk C A1 A2 A3 A4 n1 n2 n3 n4 c1 c2 c3 c4 W
  simp only [hl] at hla
  have HLA := hide hla
  clear hla hl
  go_enter Try.func3, Try.ntmps3
  go_wp2_with fail
  with_reducible refine (awake_walk _).mono ?_
  · rintro e w1 ⟨rfl, hb1⟩
    have HB1 := hb0.trans (hb1.mono hb0.size)
    have g1 := g0.below hb1 g0.lt
    have l1 := g1.lt
    have L1 := L0.to hb1
    obtain ⟨y0, y1, y2, y3, y4, y5, y6, y7, y8⟩ := g1.c9
    go_wp2_with fail
    with_reducible refine ((unhide HLA) _).mono ?_
    rintro e w2 ⟨rfl, hb2⟩
    have HB2 := HB1.trans (hb2.mono HB1.size)
    go_wp2_with fail
    with_reducible refine (awake_walk _).mono ?_
    rintro e w3 ⟨rfl, hb3⟩
    go_wp2
    go_ret
    exact ⟨rfl, HB2.trans (hb3.mono HB2.size)⟩
set_option maxRecDepth 100000 in
set_option maxHeartbeats 3200000 in
theorem machineChecks_bad (C : Cf) (A1 A2 A3 A4 : Option Addr) (n1 n2 n3 n4 c1 c2 c3 c4 : Nat) (w : World) (L : Ly w w.heap.size C A1 A2 A3 A4 n1 n2 n3 n4) (hl : lgB n1 n2 n3 n4 = false) (hc : cfCode C ≠ 0) :
    Calls Try.prog 3 #[.agg #[.int .i64 C.r, .int .i64 C.m, .slice A1 n1 c1, .slice A2 n2 c2, .slice A3 n3 c3, .slice A4 n4 c4, .int .i64 C.p, .int .i64 C.s, .int .i64 C.f]] w fun e w' => e = .returned (.bool true) ∧ Below w.heap.size w w' := by
  have hb0 := (Below.refl w.heap.size w).alloc (Nat.le_refl _) (.cells #[.int .i64 C.r, .int .i64 C.m, .slice A1 n1 c1, .slice A2 n2 c2, .slice A3 n3 c3, .slice A4 n4 c4, .int .i64 C.p, .int .i64 C.s, .int .i64 C.f] 26)
  have g0 := Blk.new w 26 #[.int .i64 C.r, .int .i64 C.m, .slice A1 n1 c1, .slice A2 n2 c2, .slice A3 n3 c3, .slice A4 n4 c4, .int .i64 C.p, .int .i64 C.s, .int .i64 C.f]
  have L0 := L.new (.cells #[.int .i64 C.r, .int .i64 C.m, .slice A1 n1 c1, .slice A2 n2 c2, .slice A3 n3 c3, .slice A4 n4 c4, .int .i64 C.p, .int .i64 C.s, .int .i64 C.f] 26)
  have hla := fun W => large_walk C A1 A2 A3 A4 n1 n2 n3 n4 c1 c2 c3 c4 W
  simp only [hl] at hla
  have hcr := fun (W : World) (h : Ly W W.heap.size C A1 A2 A3 A4 n1 n2 n3 n4) => chkR C A1 A2 A3 A4 n1 n2 n3 n4 c1 c2 c3 c4 W h
  have hcm := fun (W : World) (h : Ly W W.heap.size C A1 A2 A3 A4 n1 n2 n3 n4) => chkM C A1 A2 A3 A4 n1 n2 n3 n4 c1 c2 c3 c4 W h
  have hst := fun (W : World) (h : Ly W W.heap.size C A1 A2 A3 A4 n1 n2 n3 n4) => startM_bad C A1 A2 A3 A4 n1 n2 n3 n4 c1 c2 c3 c4 W h hc
  obtain ⟨cd, hcd⟩ : ∃ x, cfCode C = x := ⟨_, rfl⟩
  rw [hcd] at hc
  simp only [hcd] at hcr
  simp only [hcd, errV_ne hc] at hcm hst
  have HLA := hide hla
  have HCR := hide hcr
  have HCM := hide hcm
  have HST := hide hst
  clear hla hl hcr hcm hst hcd
  go_enter Try.func3, Try.ntmps3
  go_wp2_with fail
  with_reducible refine (awake_walk _).mono ?_
  · rintro e w1 ⟨rfl, hb1⟩
    have HB1 := hb0.trans (hb1.mono hb0.size)
    have g1 := g0.below hb1 g0.lt
    have l1 := g1.lt
    have L1 := L0.to hb1
    obtain ⟨y0, y1, y2, y3, y4, y5, y6, y7, y8⟩ := g1.c9
    go_wp2_with fail
    with_reducible refine ((unhide HLA) _).mono ?_
    rintro e w2 ⟨rfl, hb2⟩
    have HB2 := HB1.trans (hb2.mono HB1.size)
    have g2 := g1.below hb2 g1.lt
    have l2 := g2.lt
    have L2 := L1.to hb2
    clear y0 y1 y2 y3 y4 y5 y6 y7 y8
    obtain ⟨y0, y1, y2, y3, y4, y5, y6, y7, y8⟩ := g2.c9
    go_wp2_with fail
    with_reducible refine ((unhide HCR) _ L2).mono ?_
    rintro e w3 ⟨rfl, hb3⟩
    have HB3 := HB2.trans (hb3.mono HB2.size)
    have g3 := g2.below hb3 g2.lt
    have l3 := g3.lt
    have L3 := L2.to hb3
    clear y0 y1 y2 y3 y4 y5 y6 y7 y8
    obtain ⟨y0, y1, y2, y3, y4, y5, y6, y7, y8⟩ := g3.c9
    go_wp2_with fail
    with_reducible refine ((unhide HST) _ L3).mono ?_
    rintro e w4 ⟨rfl, hb4⟩
    have HB4 := HB3.trans (hb4.mono HB3.size)
    have g4 := g3.below hb4 g3.lt
    have l4 := g4.lt
    have l4' : w.heap.size < w4.heap.size + 1 := by omega
    have L4 := L3.to hb4
    clear y0 y1 y2 y3 y4 y5 y6 y7 y8
    obtain ⟨y0, y1, y2, y3, y4, y5, y6, y7, y8⟩ := g4.c9
    go_wp2_with fail
    with_reducible refine ((unhide HCM) _ (L4.new _)).mono ?_
    rintro e w5 ⟨rfl, hb5⟩
    have gs := (Blk.new w4 33 #[.int .i64 0, .int .i64 0]).below hb5 (Blk.new w4 33 #[.int .i64 0, .int .i64 0]).lt
    have HB5 := (HB4.alloc HB4.size _).trans (hb5.mono (by simp; have := HB4.size; omega))
    have ls := gs.lt
    obtain ⟨s0, s1⟩ := gs.c2
    go_wp2_with (first | (go_at_call 16; refine (num_iface _ _).mono ?_; rintro e w' ⟨rfl, rfl⟩))
    go_ret
    exact ⟨rfl, HB5⟩
set_option maxRecDepth 100000 in
set_option maxHeartbeats 3200000 in
theorem machineChecks_ok (C : Cf) (a1 a2 a3 a4 : Addr) (n k c1 c2 c3 c4 : Nat) (w : World) (L : Ly w w.heap.size C (some a1) (some a2) (some a3) (some a4) n n k k) (hl : lgB n n k k = false) (hc : cfCode C = 0) :
    Calls Try.prog 3 #[.agg #[.int .i64 C.r, .int .i64 C.m, .slice (some a1) n c1, .slice (some a2) n c2, .slice (some a3) k c3, .slice (some a4) k c4, .int .i64 C.p, .int .i64 C.s, .int .i64 C.f]] w fun e w' => e = .returned (.bool true) ∧ Below w.heap.size w w' := by
  have hb0 := (Below.refl w.heap.size w).alloc (Nat.le_refl _) (.cells #[.int .i64 C.r, .int .i64 C.m, .slice (some a1) n c1, .slice (some a2) n c2, .slice (some a3) k c3, .slice (some a4) k c4, .int .i64 C.p, .int .i64 C.s, .int .i64 C.f] 26)
  have g0 := Blk.new w 26 #[.int .i64 C.r, .int .i64 C.m, .slice (some a1) n c1, .slice (some a2) n c2, .slice (some a3) k c3, .slice (some a4) k c4, .int .i64 C.p, .int .i64 C.s, .int .i64 C.f]
  have L0 := L.new (.cells #[.int .i64 C.r, .int .i64 C.m, .slice (some a1) n c1, .slice (some a2) n c2, .slice (some a3) k c3, .slice (some a4) k c4, .int .i64 C.p, .int .i64 C.s, .int .i64 C.f] 26)
  have ok := cf_ok hc
  have hla := fun W => large_walk C (some a1) (some a2) (some a3) (some a4) n n k k c1 c2 c3 c4 W
  simp only [hl] at hla
  have hcr := fun (W : World) (h : Ly W W.heap.size C (some a1) (some a2) (some a3) (some a4) n n k k) => chkR C (some a1) (some a2) (some a3) (some a4) n n k k c1 c2 c3 c4 W h
  have hcm := fun (W : World) (h : Ly W W.heap.size C (some a1) (some a2) (some a3) (some a4) n n k k) => chkM C (some a1) (some a2) (some a3) (some a4) n n k k c1 c2 c3 c4 W h
  have hst := fun (W : World) (h : Ly W W.heap.size C (some a1) (some a2) (some a3) (some a4) n n k k) => startM C a1 a2 a3 a4 n k c1 c2 c3 c4 W h hc
  have hcu := fun (W : World) (h : Ly W W.heap.size C (some a1) (some a2) (some a3) (some a4) n n k k) => currentsM C a1 a2 a3 a4 n k c1 c2 c3 c4 C.m 0 W h hc
  have hto := fun (W : World) (h : Ly W W.heap.size C (some a1) (some a2) (some a3) (some a4) n n k k) => torqueM C a1 a2 a3 a4 n k c1 c2 c3 c4 C.m 0 W h hc
  have hsr := fun (W : World) => startR C a1 a2 a3 a4 n k c1 c2 c3 c4 W
  simp only [(cur_start ok).1, (cur_start ok).2] at hcu
  simp only [torq_start ok] at hto
  simp only [hc] at hcr
  simp only [hc, errV_zero] at hcm
  have HLA := hide hla
  have HCR := hide hcr
  have HCM := hide hcm
  have HST := hide hst
  have HCU := hide hcu
  have HTO := hide hto
  have HSR := hide hsr
  clear hla hl hcr hcm hst hcu hto hsr ok hc
  go_enter Try.func3, Try.ntmps3
  go_wp2_with fail
  with_reducible refine (awake_walk _).mono ?_
  · rintro e w1 ⟨rfl, hb1⟩
    have HB1 := hb0.trans (hb1.mono hb0.size)
    have g1 := g0.below hb1 g0.lt
    have l1 := g1.lt
    have L1 := L0.to hb1
    obtain ⟨y0, y1, y2, y3, y4, y5, y6, y7, y8⟩ := g1.c9
    go_wp2_with fail
    with_reducible refine ((unhide HLA) _).mono ?_
    rintro e w2 ⟨rfl, hb2⟩
    have HB2 := HB1.trans (hb2.mono HB1.size)
    have g2 := g1.below hb2 g1.lt
    have l2 := g2.lt
    have L2 := L1.to hb2
    clear y0 y1 y2 y3 y4 y5 y6 y7 y8
    obtain ⟨y0, y1, y2, y3, y4, y5, y6, y7, y8⟩ := g2.c9
    go_wp2_with fail
    with_reducible refine ((unhide HCR) _ L2).mono ?_
    rintro e w3 ⟨rfl, hb3⟩
    have HB3 := HB2.trans (hb3.mono HB2.size)
    have g3 := g2.below hb3 g2.lt
    have l3 := g3.lt
    have L3 := L2.to hb3
    clear y0 y1 y2 y3 y4 y5 y6 y7 y8
    obtain ⟨y0, y1, y2, y3, y4, y5, y6, y7, y8⟩ := g3.c9
    go_wp2_with fail
    with_reducible refine ((unhide HST) _ L3).mono ?_
    rintro e w4 ⟨rfl, hb4⟩
    have HB4 := HB3.trans (hb4.mono HB3.size)
    have g4 := g3.below hb4 g3.lt
    have l4 := g4.lt
    have l4' : w.heap.size < w4.heap.size + 1 := by omega
    have L4 := L3.to hb4
    clear y0 y1 y2 y3 y4 y5 y6 y7 y8
    obtain ⟨y0, y1, y2, y3, y4, y5, y6, y7, y8⟩ := g4.c9
    go_wp2_with fail
    with_reducible refine ((unhide HCM) _ (L4.new _)).mono ?_
    rintro e w5 ⟨rfl, hb5⟩
    have gs := (Blk.new w4 33 #[.int .i64 C.m, .int .i64 0]).below hb5 (Blk.new w4 33 #[.int .i64 C.m, .int .i64 0]).lt
    have g5 := (g4.alloc _).below hb5 (g4.alloc _).lt
    have HB5 := (HB4.alloc HB4.size _).trans (hb5.mono (by simp; have := HB4.size; omega))
    have L5 := (L4.new _).to hb5
    have ls := gs.lt
    have l5 := g5.lt
    clear y0 y1 y2 y3 y4 y5 y6 y7 y8
    obtain ⟨y0, y1, y2, y3, y4, y5, y6, y7, y8⟩ := g5.c9
    obtain ⟨s0, s1⟩ := gs.c2
    go_wp2_with (first | (go_at_call 16; refine (num_nil _).mono ?_; rintro e w' ⟨rfl, rfl⟩))
    with_reducible refine ((unhide HCU) _ L5).mono ?_
    rintro e w6 ⟨rfl, hb6⟩
    have HB6 := HB5.trans (hb6.mono HB5.size)
    have g6 := g5.below hb6 g5.lt
    have gs6 := gs.below hb6 gs.lt
    have l6 := g6.lt
    have ls6 := gs6.lt
    have l6' : w.heap.size < w6.heap.size + 1 := by omega
    have ls6' : w4.heap.size < w6.heap.size + 1 := by omega
    have L6 := L5.to hb6
    clear y0 y1 y2 y3 y4 y5 y6 y7 y8 s0 s1
    obtain ⟨y0, y1, y2, y3, y4, y5, y6, y7, y8⟩ := g6.c9
    obtain ⟨s0, s1⟩ := gs6.c2
    go_wp2_with fail
    with_reducible refine ((unhide HTO) _ (L6.new _)).mono ?_
    rintro e w7 ⟨rfl, hb7⟩
    have gi := (Blk.new w6 31 #[.int .i64 0, .int .i64 0]).below hb7 (Blk.new w6 31 #[.int .i64 0, .int .i64 0]).lt
    have g7 := (g6.alloc _).below hb7 (g6.alloc _).lt
    have gs7 := (gs6.alloc _).below hb7 (gs6.alloc _).lt
    have HB7 := (HB6.alloc HB6.size _).trans (hb7.mono (by simp; have := HB6.size; omega))
    have li := gi.lt
    have l7 := g7.lt
    have ls7 := gs7.lt
    clear y0 y1 y2 y3 y4 y5 y6 y7 y8 s0 s1
    obtain ⟨y0, y1, y2, y3, y4, y5, y6, y7, y8⟩ := g7.c9
    obtain ⟨s0, s1⟩ := gs7.c2
    obtain ⟨i0, i1⟩ := gi.c2
    go_wp2_with fail
    have has : MS w w7 C a1 a2 a3 a4 n k c1 c2 c3 c4 w4.heap.size w6.heap.size C.m 0 0 0 := ⟨g7, gs7, gi, HB7⟩
    go_region_held3 (fun w' => MS w w' C a1 a2 a3 a4 n k c1 c2 c3 c4 w4.heap.size w6.heap.size C.m 0 0 0 ∧ w'.cell? ⟨w.heap.size, 0, none⟩ = some (.int .i64 C.r) ∧ w'.cell? ⟨w.heap.size, 1, none⟩ = some (.int .i64 C.m) ∧ w'.cell? ⟨w.heap.size, 2, none⟩ = some (.slice (some a1) n c1) ∧ w'.cell? ⟨w.heap.size, 3, none⟩ = some (.slice (some a2) n c2) ∧ w'.cell? ⟨w.heap.size, 4, none⟩ = some (.slice (some a3) k c3) ∧ w'.cell? ⟨w.heap.size, 5, none⟩ = some (.slice (some a4) k c4) ∧ w'.cell? ⟨w.heap.size, 6, none⟩ = some (.int .i64 C.p) ∧ w'.cell? ⟨w.heap.size, 7, none⟩ = some (.int .i64 C.s) ∧ w'.cell? ⟨w.heap.size, 8, none⟩ = some (.int .i64 C.f) ∧ w'.cell? ⟨w4.heap.size, 0, none⟩ = some (.int .i64 C.m) ∧ w'.cell? ⟨w4.heap.size, 1, none⟩ = some (.int .i64 0) ∧ w'.cell? ⟨w6.heap.size, 0, none⟩ = some (.int .i64 0) ∧ w'.cell? ⟨w6.heap.size, 1, none⟩ = some (.int .i64 0))
      (first | (refine MS.all ?_; repeat (first | with_reducible exact has | with_reducible exact hasE | with_reducible refine MS.drew ?_)))
      (first | (go_at_call 20; (with_reducible refine ((unhide HSR) _).mono ?_); rintro e w8 ⟨rfl, hb8⟩; have hasE := MS.below hb8 (MS.one ‹MS w _ _ _ _ _ _ _ _ _ _ _ _ _ _ _ _ _ _ ∧ _›)))
    all_goals
      go_wp2
      go_ret
      exact ⟨rfl, hasE.b⟩
theorem machineChecks_walk (C : Cf) (A1 A2 A3 A4 : Option Addr) (n1 n2 n3 n4 c1 c2 c3 c4 : Nat) (w : World) (L : Ly w w.heap.size C A1 A2 A3 A4 n1 n2 n3 n4) :
    Calls Try.prog 3 #[.agg #[.int .i64 C.r, .int .i64 C.m, .slice A1 n1 c1, .slice A2 n2 c2, .slice A3 n3 c3, .slice A4 n4 c4, .int .i64 C.p, .int .i64 C.s, .int .i64 C.f]] w fun e w' => e = .returned (.bool true) ∧ Below w.heap.size w w' := by
  cases hl : lgB n1 n2 n3 n4 with
  | true => exact machineChecks_large C A1 A2 A3 A4 n1 n2 n3 n4 c1 c2 c3 c4 w L hl
  | false =>
    by_cases hc : cfCode C = 0
    · obtain ⟨a1, a2, a3, a4, rfl, rfl, rfl, rfl, rfl, rfl⟩ := L.ptrs (cf_ok hc)
      exact machineChecks_ok C a1 a2 a3 a4 _ _ c1 c2 c3 c4 w L hl hc
    · exact machineChecks_bad C A1 A2 A3 A4 n1 n2 n3 n4 c1 c2 c3 c4 w L hl hc
end Go.Proofs.Ytmmplfokidnpnaa
