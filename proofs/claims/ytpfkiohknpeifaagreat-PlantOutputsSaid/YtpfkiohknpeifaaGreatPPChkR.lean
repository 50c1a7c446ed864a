/- The walk of the reference's Check of a plant. -/
import Derived.Test.YtpfkiohknpeifaaGreatPPChk
import Derived.Test.YtpfkiohknpeifaaGreatPHeatR
namespace Go.Proofs.YtpfkiohknpeifaaGreat
open Go.RowKit
set_option maxRecDepth 100000 in
set_option maxHeartbeats 1600000 in
theorem rckR_1 (P : Pc) (X : Pa) (w : World) (L : Py w w.heap.size P X) (h1 : cfCode P.m ≠ 0) :
    Calls Tryz.prog 8 #[.agg #[.int .i64 P.m.r, .int .i64 P.m.m, .slice X.A1 X.n1 X.c1, .slice X.A2 X.n2 X.c2, .slice X.A3 X.n3 X.c3, .slice X.A4 X.n4 X.c4, .int .i64 P.m.p, .int .i64 P.m.s, .int .i64 P.m.f, .int .i64 P.l.num, .int .i64 P.l.den, .int .i64 P.l.sup, .int .i64 P.l.fed, .int .i64 P.l.ohm, .int .i64 P.l.bon, .int .i64 P.l.boff, .int .i64 P.l.bohm, .int .i64 P.g, .int .i64 P.d, .int .i64 P.y, .slice X.B1 X.m1 X.d1, .slice X.B2 X.m2 X.d2, .slice X.B3 X.m3 X.d3, .int .i64 P.wi, .int .i64 P.sw]] w fun e w' => e = .returned (.int .i64 (cfCode P.m)) ∧ Below w.heap.size w w' := by
  have k1 := fun (W : World) (h : Py W W.heap.size P X) => chkR P.m X.A1 X.A2 X.A3 X.A4 X.n1 X.n2 X.n3 X.n4 X.c1 X.c2 X.c3 X.c4 W h.m
  obtain ⟨cd, hcd⟩ : ∃ x, cfCode P.m = x := ⟨_, rfl⟩
  simp only [hcd] at k1
  rw [hcd] at h1
  have K1 := hide k1
  rw [hcd]
  clear hcd
  clear k1
  obtain ⟨W1, eW1, sW1, gc_0, bW1⟩ := box w #[.int .i64 P.m.r, .int .i64 P.m.m, .slice X.A1 X.n1 X.c1, .slice X.A2 X.n2 X.c2, .slice X.A3 X.n3 X.c3, .slice X.A4 X.n4 X.c4, .int .i64 P.m.p, .int .i64 P.m.s, .int .i64 P.m.f, .int .i64 P.l.num, .int .i64 P.l.den, .int .i64 P.l.sup, .int .i64 P.l.fed, .int .i64 P.l.ohm, .int .i64 P.l.bon, .int .i64 P.l.boff, .int .i64 P.l.bohm, .int .i64 P.g, .int .i64 P.d, .int .i64 P.y, .slice X.B1 X.m1 X.d1, .slice X.B2 X.m2 X.d2, .slice X.B3 X.m3 X.d3, .int .i64 P.wi, .int .i64 P.sw] 35 (g := w.heap.size) rfl (Below.refl w.heap.size w) (by omega)
  have L0 := L
  replace L0 := eW1 ▸ L0.new _
  have HB0 := bW1
  have lgc_0 := gc_0.lt
  go_enter Tryz.func8, Tryz.ntmps8
  have gcc0 := gc_0.cell 0
  have gcc1 := gc_0.cell 1
  have gcc2 := gc_0.cell 2
  have gcc3 := gc_0.cell 3
  have gcc4 := gc_0.cell 4
  have gcc5 := gc_0.cell 5
  have gcc6 := gc_0.cell 6
  have gcc7 := gc_0.cell 7
  have gcc8 := gc_0.cell 8
  go_wp2_with fail
  with_reducible refine ((unhide K1) _ L0).mono ?_
  rintro e w1 ⟨rfl, hb1⟩
  have HB1 := HB0.trans (hb1.mono HB0.size)
  have gc_1 := gc_0.below hb1 gc_0.lt
  have lgc_1 := gc_1.lt
  have L1 := L0.to hb1
  go_wp2
  go_ret
  exact ⟨rfl, HB1⟩
set_option maxRecDepth 100000 in
set_option maxHeartbeats 1600000 in
theorem rckR_2 (P : Pc) (X : Pa) (w : World) (L : Py w w.heap.size P X) (h1 : cfCode P.m = 0) (h2 : lkCode P.l ≠ 0) :
    Calls Tryz.prog 8 #[.agg #[.int .i64 P.m.r, .int .i64 P.m.m, .slice X.A1 X.n1 X.c1, .slice X.A2 X.n2 X.c2, .slice X.A3 X.n3 X.c3, .slice X.A4 X.n4 X.c4, .int .i64 P.m.p, .int .i64 P.m.s, .int .i64 P.m.f, .int .i64 P.l.num, .int .i64 P.l.den, .int .i64 P.l.sup, .int .i64 P.l.fed, .int .i64 P.l.ohm, .int .i64 P.l.bon, .int .i64 P.l.boff, .int .i64 P.l.bohm, .int .i64 P.g, .int .i64 P.d, .int .i64 P.y, .slice X.B1 X.m1 X.d1, .slice X.B2 X.m2 X.d2, .slice X.B3 X.m3 X.d3, .int .i64 P.wi, .int .i64 P.sw]] w fun e w' => e = .returned (.int .i64 (lkCode P.l)) ∧ Below w.heap.size w w' := by
  have k1 := fun (W : World) (h : Py W W.heap.size P X) => chkR P.m X.A1 X.A2 X.A3 X.A4 X.n1 X.n2 X.n3 X.n4 X.c1 X.c2 X.c3 X.c4 W h.m
  simp only [h1] at k1
  have K1 := hide k1
  have k2 := fun (W : World) => lckR P.l W
  obtain ⟨cd, hcd⟩ : ∃ x, lkCode P.l = x := ⟨_, rfl⟩
  simp only [hcd] at k2
  rw [hcd] at h2
  have K2 := hide k2
  rw [hcd]
  clear hcd
  clear k1 k2
  clear h1
  obtain ⟨W1, eW1, sW1, gc_0, bW1⟩ := box w #[.int .i64 P.m.r, .int .i64 P.m.m, .slice X.A1 X.n1 X.c1, .slice X.A2 X.n2 X.c2, .slice X.A3 X.n3 X.c3, .slice X.A4 X.n4 X.c4, .int .i64 P.m.p, .int .i64 P.m.s, .int .i64 P.m.f, .int .i64 P.l.num, .int .i64 P.l.den, .int .i64 P.l.sup, .int .i64 P.l.fed, .int .i64 P.l.ohm, .int .i64 P.l.bon, .int .i64 P.l.boff, .int .i64 P.l.bohm, .int .i64 P.g, .int .i64 P.d, .int .i64 P.y, .slice X.B1 X.m1 X.d1, .slice X.B2 X.m2 X.d2, .slice X.B3 X.m3 X.d3, .int .i64 P.wi, .int .i64 P.sw] 35 (g := w.heap.size) rfl (Below.refl w.heap.size w) (by omega)
  have L0 := L
  replace L0 := eW1 ▸ L0.new _
  have HB0 := bW1
  have lgc_0 := gc_0.lt
  go_enter Tryz.func8, Tryz.ntmps8
  have gcc0 := gc_0.cell 0
  have gcc1 := gc_0.cell 1
  have gcc2 := gc_0.cell 2
  have gcc3 := gc_0.cell 3
  have gcc4 := gc_0.cell 4
  have gcc5 := gc_0.cell 5
  have gcc6 := gc_0.cell 6
  have gcc7 := gc_0.cell 7
  have gcc8 := gc_0.cell 8
  go_wp2_with fail
  with_reducible refine ((unhide K1) _ L0).mono ?_
  rintro e w1 ⟨rfl, hb1⟩
  have HB1 := HB0.trans (hb1.mono HB0.size)
  have gc_1 := gc_0.below hb1 gc_0.lt
  have lgc_1 := gc_1.lt
  have L1 := L0.to hb1
  have gcc9 := gc_1.cell 9
  have gcc10 := gc_1.cell 10
  have gcc11 := gc_1.cell 11
  have gcc12 := gc_1.cell 12
  have gcc13 := gc_1.cell 13
  have gcc14 := gc_1.cell 14
  have gcc15 := gc_1.cell 15
  have gcc16 := gc_1.cell 16
  go_wp2_with fail
  with_reducible refine ((unhide K2) _).mono ?_
  rintro e w2 ⟨rfl, hb2⟩
  have HB2 := HB1.trans (hb2.mono HB1.size)
  have gc_2 := gc_1.below hb2 gc_1.lt
  have lgc_2 := gc_2.lt
  have L2 := L1.to hb2
  go_wp2
  go_ret
  exact ⟨rfl, HB2⟩
set_option maxRecDepth 100000 in
set_option maxHeartbeats 1600000 in
theorem rckR_3 (P : Pc) (X : Pa) (w : World) (L : Py w w.heap.size P X) (h1 : cfCode P.m = 0) (h2 : lkCode P.l = 0) (h3 : shCode P.g P.d P.y ≠ 0) :
    Calls Tryz.prog 8 #[.agg #[.int .i64 P.m.r, .int .i64 P.m.m, .slice X.A1 X.n1 X.c1, .slice X.A2 X.n2 X.c2, .slice X.A3 X.n3 X.c3, .slice X.A4 X.n4 X.c4, .int .i64 P.m.p, .int .i64 P.m.s, .int .i64 P.m.f, .int .i64 P.l.num, .int .i64 P.l.den, .int .i64 P.l.sup, .int .i64 P.l.fed, .int .i64 P.l.ohm, .int .i64 P.l.bon, .int .i64 P.l.boff, .int .i64 P.l.bohm, .int .i64 P.g, .int .i64 P.d, .int .i64 P.y, .slice X.B1 X.m1 X.d1, .slice X.B2 X.m2 X.d2, .slice X.B3 X.m3 X.d3, .int .i64 P.wi, .int .i64 P.sw]] w fun e w' => e = .returned (.int .i64 (shCode P.g P.d P.y)) ∧ Below w.heap.size w w' := by
  have k1 := fun (W : World) (h : Py W W.heap.size P X) => chkR P.m X.A1 X.A2 X.A3 X.A4 X.n1 X.n2 X.n3 X.n4 X.c1 X.c2 X.c3 X.c4 W h.m
  simp only [h1] at k1
  have K1 := hide k1
  have k2 := fun (W : World) => lckR P.l W
  simp only [h2] at k2
  have K2 := hide k2
  have k3 := fun (W : World) => shckR P.g P.d P.y W
  obtain ⟨cd, hcd⟩ : ∃ x, shCode P.g P.d P.y = x := ⟨_, rfl⟩
  simp only [hcd] at k3
  rw [hcd] at h3
  have K3 := hide k3
  rw [hcd]
  clear hcd
  clear k1 k2 k3
  clear h1 h2
  obtain ⟨W1, eW1, sW1, gc_0, bW1⟩ := box w #[.int .i64 P.m.r, .int .i64 P.m.m, .slice X.A1 X.n1 X.c1, .slice X.A2 X.n2 X.c2, .slice X.A3 X.n3 X.c3, .slice X.A4 X.n4 X.c4, .int .i64 P.m.p, .int .i64 P.m.s, .int .i64 P.m.f, .int .i64 P.l.num, .int .i64 P.l.den, .int .i64 P.l.sup, .int .i64 P.l.fed, .int .i64 P.l.ohm, .int .i64 P.l.bon, .int .i64 P.l.boff, .int .i64 P.l.bohm, .int .i64 P.g, .int .i64 P.d, .int .i64 P.y, .slice X.B1 X.m1 X.d1, .slice X.B2 X.m2 X.d2, .slice X.B3 X.m3 X.d3, .int .i64 P.wi, .int .i64 P.sw] 35 (g := w.heap.size) rfl (Below.refl w.heap.size w) (by omega)
  have L0 := L
  replace L0 := eW1 ▸ L0.new _
  have HB0 := bW1
  have lgc_0 := gc_0.lt
  go_enter Tryz.func8, Tryz.ntmps8
  have gcc0 := gc_0.cell 0
  have gcc1 := gc_0.cell 1
  have gcc2 := gc_0.cell 2
  have gcc3 := gc_0.cell 3
  have gcc4 := gc_0.cell 4
  have gcc5 := gc_0.cell 5
  have gcc6 := gc_0.cell 6
  have gcc7 := gc_0.cell 7
  have gcc8 := gc_0.cell 8
  go_wp2_with fail
  with_reducible refine ((unhide K1) _ L0).mono ?_
  rintro e w1 ⟨rfl, hb1⟩
  have HB1 := HB0.trans (hb1.mono HB0.size)
  have gc_1 := gc_0.below hb1 gc_0.lt
  have lgc_1 := gc_1.lt
  have L1 := L0.to hb1
  have gcc9 := gc_1.cell 9
  have gcc10 := gc_1.cell 10
  have gcc11 := gc_1.cell 11
  have gcc12 := gc_1.cell 12
  have gcc13 := gc_1.cell 13
  have gcc14 := gc_1.cell 14
  have gcc15 := gc_1.cell 15
  have gcc16 := gc_1.cell 16
  go_wp2_with fail
  with_reducible refine ((unhide K2) _).mono ?_
  rintro e w2 ⟨rfl, hb2⟩
  have HB2 := HB1.trans (hb2.mono HB1.size)
  have gc_2 := gc_1.below hb2 gc_1.lt
  have lgc_2 := gc_2.lt
  have L2 := L1.to hb2
  have gcc17 := gc_2.cell 17
  have gcc18 := gc_2.cell 18
  have gcc19 := gc_2.cell 19
  go_wp2_with fail
  with_reducible refine ((unhide K3) _).mono ?_
  rintro e w3 ⟨rfl, hb3⟩
  have HB3 := HB2.trans (hb3.mono HB2.size)
  have gc_3 := gc_2.below hb3 gc_2.lt
  have lgc_3 := gc_3.lt
  have L3 := L2.to hb3
  go_wp2
  go_ret
  exact ⟨rfl, HB3⟩
set_option maxRecDepth 100000 in
set_option maxHeartbeats 1600000 in
theorem rckR_4 (P : Pc) (X : Pa) (w : World) (L : Py w w.heap.size P X) (h1 : cfCode P.m = 0) (h2 : lkCode P.l = 0) (h3 : shCode P.g P.d P.y = 0) (h4 : htCode P.h ≠ 0) :
    Calls Tryz.prog 8 #[.agg #[.int .i64 P.m.r, .int .i64 P.m.m, .slice X.A1 X.n1 X.c1, .slice X.A2 X.n2 X.c2, .slice X.A3 X.n3 X.c3, .slice X.A4 X.n4 X.c4, .int .i64 P.m.p, .int .i64 P.m.s, .int .i64 P.m.f, .int .i64 P.l.num, .int .i64 P.l.den, .int .i64 P.l.sup, .int .i64 P.l.fed, .int .i64 P.l.ohm, .int .i64 P.l.bon, .int .i64 P.l.boff, .int .i64 P.l.bohm, .int .i64 P.g, .int .i64 P.d, .int .i64 P.y, .slice X.B1 X.m1 X.d1, .slice X.B2 X.m2 X.d2, .slice X.B3 X.m3 X.d3, .int .i64 P.wi, .int .i64 P.sw]] w fun e w' => e = .returned (.int .i64 (htCode P.h)) ∧ Below w.heap.size w w' := by
  have k1 := fun (W : World) (h : Py W W.heap.size P X) => chkR P.m X.A1 X.A2 X.A3 X.A4 X.n1 X.n2 X.n3 X.n4 X.c1 X.c2 X.c3 X.c4 W h.m
  simp only [h1] at k1
  have K1 := hide k1
  have k2 := fun (W : World) => lckR P.l W
  simp only [h2] at k2
  have K2 := hide k2
  have k3 := fun (W : World) => shckR P.g P.d P.y W
  simp only [h3] at k3
  have K3 := hide k3
  have k4 := fun (W : World) (h : Py W W.heap.size P X) => hckR P.h X.B1 X.B2 X.B3 X.m1 X.m2 X.m3 X.d1 X.d2 X.d3 X.PA X.PC W h.h
  obtain ⟨cd, hcd⟩ : ∃ x, htCode P.h = x := ⟨_, rfl⟩
  simp only [hcd] at k4
  rw [hcd] at h4
  have K4 := hide k4
  rw [hcd]
  clear hcd
  clear k1 k2 k3 k4
  clear h1 h2 h3
  obtain ⟨W1, eW1, sW1, gc_0, bW1⟩ := box w #[.int .i64 P.m.r, .int .i64 P.m.m, .slice X.A1 X.n1 X.c1, .slice X.A2 X.n2 X.c2, .slice X.A3 X.n3 X.c3, .slice X.A4 X.n4 X.c4, .int .i64 P.m.p, .int .i64 P.m.s, .int .i64 P.m.f, .int .i64 P.l.num, .int .i64 P.l.den, .int .i64 P.l.sup, .int .i64 P.l.fed, .int .i64 P.l.ohm, .int .i64 P.l.bon, .int .i64 P.l.boff, .int .i64 P.l.bohm, .int .i64 P.g, .int .i64 P.d, .int .i64 P.y, .slice X.B1 X.m1 X.d1, .slice X.B2 X.m2 X.d2, .slice X.B3 X.m3 X.d3, .int .i64 P.wi, .int .i64 P.sw] 35 (g := w.heap.size) rfl (Below.refl w.heap.size w) (by omega)
  have L0 := L
  replace L0 := eW1 ▸ L0.new _
  have HB0 := bW1
  have lgc_0 := gc_0.lt
  go_enter Tryz.func8, Tryz.ntmps8
  have gcc0 := gc_0.cell 0
  have gcc1 := gc_0.cell 1
  have gcc2 := gc_0.cell 2
  have gcc3 := gc_0.cell 3
  have gcc4 := gc_0.cell 4
  have gcc5 := gc_0.cell 5
  have gcc6 := gc_0.cell 6
  have gcc7 := gc_0.cell 7
  have gcc8 := gc_0.cell 8
  go_wp2_with fail
  with_reducible refine ((unhide K1) _ L0).mono ?_
  rintro e w1 ⟨rfl, hb1⟩
  have HB1 := HB0.trans (hb1.mono HB0.size)
  have gc_1 := gc_0.below hb1 gc_0.lt
  have lgc_1 := gc_1.lt
  have L1 := L0.to hb1
  have gcc9 := gc_1.cell 9
  have gcc10 := gc_1.cell 10
  have gcc11 := gc_1.cell 11
  have gcc12 := gc_1.cell 12
  have gcc13 := gc_1.cell 13
  have gcc14 := gc_1.cell 14
  have gcc15 := gc_1.cell 15
  have gcc16 := gc_1.cell 16
  go_wp2_with fail
  with_reducible refine ((unhide K2) _).mono ?_
  rintro e w2 ⟨rfl, hb2⟩
  have HB2 := HB1.trans (hb2.mono HB1.size)
  have gc_2 := gc_1.below hb2 gc_1.lt
  have lgc_2 := gc_2.lt
  have L2 := L1.to hb2
  have gcc17 := gc_2.cell 17
  have gcc18 := gc_2.cell 18
  have gcc19 := gc_2.cell 19
  go_wp2_with fail
  with_reducible refine ((unhide K3) _).mono ?_
  rintro e w3 ⟨rfl, hb3⟩
  have HB3 := HB2.trans (hb3.mono HB2.size)
  have gc_3 := gc_2.below hb3 gc_2.lt
  have lgc_3 := gc_3.lt
  have L3 := L2.to hb3
  have gcc20 := gc_3.cell 20
  have gcc21 := gc_3.cell 21
  have gcc22 := gc_3.cell 22
  go_wp2_with fail
  with_reducible refine ((unhide K4) _ L3).mono ?_
  rintro e w4 ⟨rfl, hb4⟩
  have HB4 := HB3.trans (hb4.mono HB3.size)
  have gc_4 := gc_3.below hb4 gc_3.lt
  have lgc_4 := gc_4.lt
  have L4 := L3.to hb4
  go_wp2
  go_ret
  exact ⟨rfl, HB4⟩
set_option maxRecDepth 100000 in
set_option maxHeartbeats 1600000 in
theorem rckR_5 (P : Pc) (X : Pa) (w : World) (L : Py w w.heap.size P X) (h1 : cfCode P.m = 0) (h2 : lkCode P.l = 0) (h3 : shCode P.g P.d P.y = 0) (h4 : htCode P.h = 0) (h5 : P.h.G.length ≠ 3) :
    Calls Tryz.prog 8 #[.agg #[.int .i64 P.m.r, .int .i64 P.m.m, .slice X.A1 X.n1 X.c1, .slice X.A2 X.n2 X.c2, .slice X.A3 X.n3 X.c3, .slice X.A4 X.n4 X.c4, .int .i64 P.m.p, .int .i64 P.m.s, .int .i64 P.m.f, .int .i64 P.l.num, .int .i64 P.l.den, .int .i64 P.l.sup, .int .i64 P.l.fed, .int .i64 P.l.ohm, .int .i64 P.l.bon, .int .i64 P.l.boff, .int .i64 P.l.bohm, .int .i64 P.g, .int .i64 P.d, .int .i64 P.y, .slice X.B1 X.m1 X.d1, .slice X.B2 X.m2 X.d2, .slice X.B3 X.m3 X.d3, .int .i64 P.wi, .int .i64 P.sw]] w fun e w' => e = .returned (.int .i64 11) ∧ Below w.heap.size w w' := by
  have k1 := fun (W : World) (h : Py W W.heap.size P X) => chkR P.m X.A1 X.A2 X.A3 X.A4 X.n1 X.n2 X.n3 X.n4 X.c1 X.c2 X.c3 X.c4 W h.m
  simp only [h1] at k1
  have K1 := hide k1
  have k2 := fun (W : World) => lckR P.l W
  simp only [h2] at k2
  have K2 := hide k2
  have k3 := fun (W : World) => shckR P.g P.d P.y W
  simp only [h3] at k3
  have K3 := hide k3
  have k4 := fun (W : World) (h : Py W W.heap.size P X) => hckR P.h X.B1 X.B2 X.B3 X.m1 X.m2 X.m3 X.d1 X.d2 X.d3 X.PA X.PC W h.h
  simp only [h4] at k4
  have K4 := hide k4
  have e1 := L.h.e1
  have h5i : ¬ X.m1 = 3 := by omega
  have h5j : ¬ (X.m1 : Int) = 3 := by omega
  have H5 := Lib.hid h5i
  clear e1 h5 h5i
  clear k1 k2 k3 k4
  clear h1 h2 h3 h4
  obtain ⟨W1, eW1, sW1, gc_0, bW1⟩ := box w #[.int .i64 P.m.r, .int .i64 P.m.m, .slice X.A1 X.n1 X.c1, .slice X.A2 X.n2 X.c2, .slice X.A3 X.n3 X.c3, .slice X.A4 X.n4 X.c4, .int .i64 P.m.p, .int .i64 P.m.s, .int .i64 P.m.f, .int .i64 P.l.num, .int .i64 P.l.den, .int .i64 P.l.sup, .int .i64 P.l.fed, .int .i64 P.l.ohm, .int .i64 P.l.bon, .int .i64 P.l.boff, .int .i64 P.l.bohm, .int .i64 P.g, .int .i64 P.d, .int .i64 P.y, .slice X.B1 X.m1 X.d1, .slice X.B2 X.m2 X.d2, .slice X.B3 X.m3 X.d3, .int .i64 P.wi, .int .i64 P.sw] 35 (g := w.heap.size) rfl (Below.refl w.heap.size w) (by omega)
  have L0 := L
  replace L0 := eW1 ▸ L0.new _
  have HB0 := bW1
  have lgc_0 := gc_0.lt
  go_enter Tryz.func8, Tryz.ntmps8
  have gcc0 := gc_0.cell 0
  have gcc1 := gc_0.cell 1
  have gcc2 := gc_0.cell 2
  have gcc3 := gc_0.cell 3
  have gcc4 := gc_0.cell 4
  have gcc5 := gc_0.cell 5
  have gcc6 := gc_0.cell 6
  have gcc7 := gc_0.cell 7
  have gcc8 := gc_0.cell 8
  go_wp2_with fail
  with_reducible refine ((unhide K1) _ L0).mono ?_
  rintro e w1 ⟨rfl, hb1⟩
  have HB1 := HB0.trans (hb1.mono HB0.size)
  have gc_1 := gc_0.below hb1 gc_0.lt
  have lgc_1 := gc_1.lt
  have L1 := L0.to hb1
  have gcc9 := gc_1.cell 9
  have gcc10 := gc_1.cell 10
  have gcc11 := gc_1.cell 11
  have gcc12 := gc_1.cell 12
  have gcc13 := gc_1.cell 13
  have gcc14 := gc_1.cell 14
  have gcc15 := gc_1.cell 15
  have gcc16 := gc_1.cell 16
  go_wp2_with fail
  with_reducible refine ((unhide K2) _).mono ?_
  rintro e w2 ⟨rfl, hb2⟩
  have HB2 := HB1.trans (hb2.mono HB1.size)
  have gc_2 := gc_1.below hb2 gc_1.lt
  have lgc_2 := gc_2.lt
  have L2 := L1.to hb2
  have gcc17 := gc_2.cell 17
  have gcc18 := gc_2.cell 18
  have gcc19 := gc_2.cell 19
  go_wp2_with fail
  with_reducible refine ((unhide K3) _).mono ?_
  rintro e w3 ⟨rfl, hb3⟩
  have HB3 := HB2.trans (hb3.mono HB2.size)
  have gc_3 := gc_2.below hb3 gc_2.lt
  have lgc_3 := gc_3.lt
  have L3 := L2.to hb3
  have gcc20 := gc_3.cell 20
  have gcc21 := gc_3.cell 21
  have gcc22 := gc_3.cell 22
  go_wp2_with fail
  with_reducible refine ((unhide K4) _ L3).mono ?_
  rintro e w4 ⟨rfl, hb4⟩
  have HB4 := HB3.trans (hb4.mono HB3.size)
  have gc_4 := gc_3.below hb4 gc_3.lt
  have lgc_4 := gc_4.lt
  have L4 := L3.to hb4
  have gcc20 := gc_4.cell 20
  have h5i := H5.out
  go_wp2
  go_ret
  exact ⟨rfl, HB4⟩
set_option maxRecDepth 100000 in
set_option maxHeartbeats 1600000 in
theorem rckR_6 (P : Pc) (X : Pa) (w : World) (L : Py w w.heap.size P X) (h1 : cfCode P.m = 0) (h2 : lkCode P.l = 0) (h3 : shCode P.g P.d P.y = 0) (h4 : htCode P.h = 0) (h5 : P.h.G.length = 3) (h6 : P.wi < 0 ∨ 1048576 < P.wi ∨ P.sw < 0 ∨ 1048576 < P.sw) :
    Calls Tryz.prog 8 #[.agg #[.int .i64 P.m.r, .int .i64 P.m.m, .slice X.A1 X.n1 X.c1, .slice X.A2 X.n2 X.c2, .slice X.A3 X.n3 X.c3, .slice X.A4 X.n4 X.c4, .int .i64 P.m.p, .int .i64 P.m.s, .int .i64 P.m.f, .int .i64 P.l.num, .int .i64 P.l.den, .int .i64 P.l.sup, .int .i64 P.l.fed, .int .i64 P.l.ohm, .int .i64 P.l.bon, .int .i64 P.l.boff, .int .i64 P.l.bohm, .int .i64 P.g, .int .i64 P.d, .int .i64 P.y, .slice X.B1 X.m1 X.d1, .slice X.B2 X.m2 X.d2, .slice X.B3 X.m3 X.d3, .int .i64 P.wi, .int .i64 P.sw]] w fun e w' => e = .returned (.int .i64 3) ∧ Below w.heap.size w w' := by
  have k1 := fun (W : World) (h : Py W W.heap.size P X) => chkR P.m X.A1 X.A2 X.A3 X.A4 X.n1 X.n2 X.n3 X.n4 X.c1 X.c2 X.c3 X.c4 W h.m
  simp only [h1] at k1
  have K1 := hide k1
  have k2 := fun (W : World) => lckR P.l W
  simp only [h2] at k2
  have K2 := hide k2
  have k3 := fun (W : World) => shckR P.g P.d P.y W
  simp only [h3] at k3
  have K3 := hide k3
  have k4 := fun (W : World) (h : Py W W.heap.size P X) => hckR P.h X.B1 X.B2 X.B3 X.m1 X.m2 X.m3 X.d1 X.d2 X.d3 X.PA X.PC W h.h
  simp only [h4] at k4
  have K4 := hide k4
  have e1 := L.h.e1
  have h5i : X.m1 = 3 := by omega
  have H5 := Lib.hid h5i
  clear e1 h5 h5i
  clear k1 k2 k3 k4
  clear h1 h2 h3 h4
  obtain ⟨W1, eW1, sW1, gc_0, bW1⟩ := box w #[.int .i64 P.m.r, .int .i64 P.m.m, .slice X.A1 X.n1 X.c1, .slice X.A2 X.n2 X.c2, .slice X.A3 X.n3 X.c3, .slice X.A4 X.n4 X.c4, .int .i64 P.m.p, .int .i64 P.m.s, .int .i64 P.m.f, .int .i64 P.l.num, .int .i64 P.l.den, .int .i64 P.l.sup, .int .i64 P.l.fed, .int .i64 P.l.ohm, .int .i64 P.l.bon, .int .i64 P.l.boff, .int .i64 P.l.bohm, .int .i64 P.g, .int .i64 P.d, .int .i64 P.y, .slice X.B1 X.m1 X.d1, .slice X.B2 X.m2 X.d2, .slice X.B3 X.m3 X.d3, .int .i64 P.wi, .int .i64 P.sw] 35 (g := w.heap.size) rfl (Below.refl w.heap.size w) (by omega)
  have L0 := L
  replace L0 := eW1 ▸ L0.new _
  have HB0 := bW1
  have lgc_0 := gc_0.lt
  go_enter Tryz.func8, Tryz.ntmps8
  have gcc0 := gc_0.cell 0
  have gcc1 := gc_0.cell 1
  have gcc2 := gc_0.cell 2
  have gcc3 := gc_0.cell 3
  have gcc4 := gc_0.cell 4
  have gcc5 := gc_0.cell 5
  have gcc6 := gc_0.cell 6
  have gcc7 := gc_0.cell 7
  have gcc8 := gc_0.cell 8
  go_wp2_with fail
  with_reducible refine ((unhide K1) _ L0).mono ?_
  rintro e w1 ⟨rfl, hb1⟩
  have HB1 := HB0.trans (hb1.mono HB0.size)
  have gc_1 := gc_0.below hb1 gc_0.lt
  have lgc_1 := gc_1.lt
  have L1 := L0.to hb1
  have gcc9 := gc_1.cell 9
  have gcc10 := gc_1.cell 10
  have gcc11 := gc_1.cell 11
  have gcc12 := gc_1.cell 12
  have gcc13 := gc_1.cell 13
  have gcc14 := gc_1.cell 14
  have gcc15 := gc_1.cell 15
  have gcc16 := gc_1.cell 16
  go_wp2_with fail
  with_reducible refine ((unhide K2) _).mono ?_
  rintro e w2 ⟨rfl, hb2⟩
  have HB2 := HB1.trans (hb2.mono HB1.size)
  have gc_2 := gc_1.below hb2 gc_1.lt
  have lgc_2 := gc_2.lt
  have L2 := L1.to hb2
  have gcc17 := gc_2.cell 17
  have gcc18 := gc_2.cell 18
  have gcc19 := gc_2.cell 19
  go_wp2_with fail
  with_reducible refine ((unhide K3) _).mono ?_
  rintro e w3 ⟨rfl, hb3⟩
  have HB3 := HB2.trans (hb3.mono HB2.size)
  have gc_3 := gc_2.below hb3 gc_2.lt
  have lgc_3 := gc_3.lt
  have L3 := L2.to hb3
  have gcc20 := gc_3.cell 20
  have gcc21 := gc_3.cell 21
  have gcc22 := gc_3.cell 22
  go_wp2_with fail
  with_reducible refine ((unhide K4) _ L3).mono ?_
  rintro e w4 ⟨rfl, hb4⟩
  have HB4 := HB3.trans (hb4.mono HB3.size)
  have gc_4 := gc_3.below hb4 gc_3.lt
  have lgc_4 := gc_4.lt
  have L4 := L3.to hb4
  have gcc20 := gc_4.cell 20
  have h5i := H5.out
  rw [h5i] at gcc20
  have gcc23 := gc_4.cell 23
  have gcc24 := gc_4.cell 24
  rcases h6 with q | q | q | q
  all_goals
    go_wp2
    all_goals
      go_ret
      exact ⟨by first | rfl | (exfalso; omega), HB4⟩
set_option maxRecDepth 100000 in
set_option maxHeartbeats 1600000 in
theorem rckR_7 (P : Pc) (X : Pa) (w : World) (L : Py w w.heap.size P X) (h1 : cfCode P.m = 0) (h2 : lkCode P.l = 0) (h3 : shCode P.g P.d P.y = 0) (h4 : htCode P.h = 0) (h5 : P.h.G.length = 3) (h6 : ¬ (P.wi < 0 ∨ 1048576 < P.wi ∨ P.sw < 0 ∨ 1048576 < P.sw)) :
    Calls Tryz.prog 8 #[.agg #[.int .i64 P.m.r, .int .i64 P.m.m, .slice X.A1 X.n1 X.c1, .slice X.A2 X.n2 X.c2, .slice X.A3 X.n3 X.c3, .slice X.A4 X.n4 X.c4, .int .i64 P.m.p, .int .i64 P.m.s, .int .i64 P.m.f, .int .i64 P.l.num, .int .i64 P.l.den, .int .i64 P.l.sup, .int .i64 P.l.fed, .int .i64 P.l.ohm, .int .i64 P.l.bon, .int .i64 P.l.boff, .int .i64 P.l.bohm, .int .i64 P.g, .int .i64 P.d, .int .i64 P.y, .slice X.B1 X.m1 X.d1, .slice X.B2 X.m2 X.d2, .slice X.B3 X.m3 X.d3, .int .i64 P.wi, .int .i64 P.sw]] w fun e w' => e = .returned (.int .i64 0) ∧ Below w.heap.size w w' := by
  have k1 := fun (W : World) (h : Py W W.heap.size P X) => chkR P.m X.A1 X.A2 X.A3 X.A4 X.n1 X.n2 X.n3 X.n4 X.c1 X.c2 X.c3 X.c4 W h.m
  simp only [h1] at k1
  have K1 := hide k1
  have k2 := fun (W : World) => lckR P.l W
  simp only [h2] at k2
  have K2 := hide k2
  have k3 := fun (W : World) => shckR P.g P.d P.y W
  simp only [h3] at k3
  have K3 := hide k3
  have k4 := fun (W : World) (h : Py W W.heap.size P X) => hckR P.h X.B1 X.B2 X.B3 X.m1 X.m2 X.m3 X.d1 X.d2 X.d3 X.PA X.PC W h.h
  simp only [h4] at k4
  have K4 := hide k4
  have e1 := L.h.e1
  have h5i : X.m1 = 3 := by omega
  have H5 := Lib.hid h5i
  clear e1 h5 h5i
  clear k1 k2 k3 k4
  clear h1 h2 h3 h4
  obtain ⟨q1, q2, q3, q4⟩ : ¬ P.wi < 0 ∧ ¬ 1048576 < P.wi ∧ ¬ P.sw < 0 ∧ ¬ 1048576 < P.sw := by omega
  clear h6
  obtain ⟨W1, eW1, sW1, gc_0, bW1⟩ := box w #[.int .i64 P.m.r, .int .i64 P.m.m, .slice X.A1 X.n1 X.c1, .slice X.A2 X.n2 X.c2, .slice X.A3 X.n3 X.c3, .slice X.A4 X.n4 X.c4, .int .i64 P.m.p, .int .i64 P.m.s, .int .i64 P.m.f, .int .i64 P.l.num, .int .i64 P.l.den, .int .i64 P.l.sup, .int .i64 P.l.fed, .int .i64 P.l.ohm, .int .i64 P.l.bon, .int .i64 P.l.boff, .int .i64 P.l.bohm, .int .i64 P.g, .int .i64 P.d, .int .i64 P.y, .slice X.B1 X.m1 X.d1, .slice X.B2 X.m2 X.d2, .slice X.B3 X.m3 X.d3, .int .i64 P.wi, .int .i64 P.sw] 35 (g := w.heap.size) rfl (Below.refl w.heap.size w) (by omega)
  have L0 := L
  replace L0 := eW1 ▸ L0.new _
  have HB0 := bW1
  have lgc_0 := gc_0.lt
  go_enter Tryz.func8, Tryz.ntmps8
  have gcc0 := gc_0.cell 0
  have gcc1 := gc_0.cell 1
  have gcc2 := gc_0.cell 2
  have gcc3 := gc_0.cell 3
  have gcc4 := gc_0.cell 4
  have gcc5 := gc_0.cell 5
  have gcc6 := gc_0.cell 6
  have gcc7 := gc_0.cell 7
  have gcc8 := gc_0.cell 8
  go_wp2_with fail
  with_reducible refine ((unhide K1) _ L0).mono ?_
  rintro e w1 ⟨rfl, hb1⟩
  have HB1 := HB0.trans (hb1.mono HB0.size)
  have gc_1 := gc_0.below hb1 gc_0.lt
  have lgc_1 := gc_1.lt
  have L1 := L0.to hb1
  have gcc9 := gc_1.cell 9
  have gcc10 := gc_1.cell 10
  have gcc11 := gc_1.cell 11
  have gcc12 := gc_1.cell 12
  have gcc13 := gc_1.cell 13
  have gcc14 := gc_1.cell 14
  have gcc15 := gc_1.cell 15
  have gcc16 := gc_1.cell 16
  go_wp2_with fail
  with_reducible refine ((unhide K2) _).mono ?_
  rintro e w2 ⟨rfl, hb2⟩
  have HB2 := HB1.trans (hb2.mono HB1.size)
  have gc_2 := gc_1.below hb2 gc_1.lt
  have lgc_2 := gc_2.lt
  have L2 := L1.to hb2
  have gcc17 := gc_2.cell 17
  have gcc18 := gc_2.cell 18
  have gcc19 := gc_2.cell 19
  go_wp2_with fail
  with_reducible refine ((unhide K3) _).mono ?_
  rintro e w3 ⟨rfl, hb3⟩
  have HB3 := HB2.trans (hb3.mono HB2.size)
  have gc_3 := gc_2.below hb3 gc_2.lt
  have lgc_3 := gc_3.lt
  have L3 := L2.to hb3
  have gcc20 := gc_3.cell 20
  have gcc21 := gc_3.cell 21
  have gcc22 := gc_3.cell 22
  go_wp2_with fail
  with_reducible refine ((unhide K4) _ L3).mono ?_
  rintro e w4 ⟨rfl, hb4⟩
  have HB4 := HB3.trans (hb4.mono HB3.size)
  have gc_4 := gc_3.below hb4 gc_3.lt
  have lgc_4 := gc_4.lt
  have L4 := L3.to hb4
  have gcc20 := gc_4.cell 20
  have h5i := H5.out
  rw [h5i] at gcc20
  have gcc23 := gc_4.cell 23
  have gcc24 := gc_4.cell 24
  go_wp2
  go_ret
  exact ⟨rfl, HB4⟩
theorem rckR (P : Pc) (X : Pa) (w : World) (L : Py w w.heap.size P X) : Calls Tryz.prog 8 #[.agg #[.int .i64 P.m.r, .int .i64 P.m.m, .slice X.A1 X.n1 X.c1, .slice X.A2 X.n2 X.c2, .slice X.A3 X.n3 X.c3, .slice X.A4 X.n4 X.c4, .int .i64 P.m.p, .int .i64 P.m.s, .int .i64 P.m.f, .int .i64 P.l.num, .int .i64 P.l.den, .int .i64 P.l.sup, .int .i64 P.l.fed, .int .i64 P.l.ohm, .int .i64 P.l.bon, .int .i64 P.l.boff, .int .i64 P.l.bohm, .int .i64 P.g, .int .i64 P.d, .int .i64 P.y, .slice X.B1 X.m1 X.d1, .slice X.B2 X.m2 X.d2, .slice X.B3 X.m3 X.d3, .int .i64 P.wi, .int .i64 P.sw]] w fun e w' => e = .returned (.int .i64 (plCode P)) ∧ Below w.heap.size w w' := by
  by_cases h1 : cfCode P.m = 0
  case neg => rw [pl_c1 h1]; exact rckR_1 P X w L h1
  by_cases h2 : lkCode P.l = 0
  case neg => rw [pl_c2 h1 h2]; exact rckR_2 P X w L h1 h2
  by_cases h3 : shCode P.g P.d P.y = 0
  case neg => rw [pl_c3 h1 h2 h3]; exact rckR_3 P X w L h1 h2 h3
  by_cases h4 : htCode P.h = 0
  case neg => rw [pl_c4 h1 h2 h3 h4]; exact rckR_4 P X w L h1 h2 h3 h4
  by_cases h5 : P.h.G.length = 3
  case neg => rw [pl_c5 h1 h2 h3 h4 h5]; exact rckR_5 P X w L h1 h2 h3 h4 h5
  by_cases h6 : P.wi < 0 ∨ 1048576 < P.wi ∨ P.sw < 0 ∨ 1048576 < P.sw
  case pos => rw [pl_c6 h1 h2 h3 h4 h5 h6]; exact rckR_6 P X w L h1 h2 h3 h4 h5 h6
  rw [pl_c7 h1 h2 h3 h4 h5 h6]
  exact rckR_7 P X w L h1 h2 h3 h4 h5 h6
end Go.Proofs.YtpfkiohknpeifaaGreat
