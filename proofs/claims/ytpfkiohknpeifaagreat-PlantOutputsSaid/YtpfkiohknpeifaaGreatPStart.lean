/- The walk of plant.Start. -/
import Derived.Test.YtpfkiohknpeifaaGreatPStepP
import Derived.Test.YtpfkiohknpeifaaGreatPPChk
import Derived.Laws.Rows
namespace Go.Proofs.YtpfkiohknpeifaaGreat
open Go.RowKit
set_option maxRecDepth 100000 in
set_option maxHeartbeats 1600000 in
theorem pstartM_bad (P : Pc) (X : Pa) (amb : Int) (w : World) (L : Py w w.heap.size P X) (hc : plCode P ≠ 0) :
    Calls Tryz.prog 9 #[.agg #[.int .i64 P.m.r, .int .i64 P.m.m, .slice X.A1 X.n1 X.c1, .slice X.A2 X.n2 X.c2, .slice X.A3 X.n3 X.c3, .slice X.A4 X.n4 X.c4, .int .i64 P.m.p, .int .i64 P.m.s, .int .i64 P.m.f, .int .i64 P.l.num, .int .i64 P.l.den, .int .i64 P.l.sup, .int .i64 P.l.fed, .int .i64 P.l.ohm, .int .i64 P.l.bon, .int .i64 P.l.boff, .int .i64 P.l.bohm, .int .i64 P.g, .int .i64 P.d, .int .i64 P.y, .slice X.B1 X.m1 X.d1, .slice X.B2 X.m2 X.d2, .slice X.B3 X.m3 X.d3, .int .i64 P.wi, .int .i64 P.sw], .int .i64 amb] w fun e w' => e = .returned (.tuple #[.agg #[.int .i64 0, .int .i64 0, .int .i64 0, .bool false, .int .i64 0, .int .i64 0, .slice none 0 0, .int .i64 0], errV (plCode P)]) ∧ Below w.heap.size w w' := by
  have k1 := fun (W : World) (h : Py W W.heap.size P X) => pckM P X W h
  simp only [errV_ne hc] at k1
  rw [errV_ne hc]
  have K1 := hide k1
  clear k1 hc
  have HB := Below.refl w.heap.size w
  obtain ⟨w1, eW1, sW1, gc, hb⟩ := box w #[.int .i64 P.m.r, .int .i64 P.m.m, .slice X.A1 X.n1 X.c1, .slice X.A2 X.n2 X.c2, .slice X.A3 X.n3 X.c3, .slice X.A4 X.n4 X.c4, .int .i64 P.m.p, .int .i64 P.m.s, .int .i64 P.m.f, .int .i64 P.l.num, .int .i64 P.l.den, .int .i64 P.l.sup, .int .i64 P.l.fed, .int .i64 P.l.ohm, .int .i64 P.l.bon, .int .i64 P.l.boff, .int .i64 P.l.bohm, .int .i64 P.g, .int .i64 P.d, .int .i64 P.y, .slice X.B1 X.m1 X.d1, .slice X.B2 X.m2 X.d2, .slice X.B3 X.m3 X.d3, .int .i64 P.wi, .int .i64 P.sw] 35 (g := w.heap.size) rfl HB (by have := HB.size; omega)
  have Qgc : Hid (w.heap.size ≤ w.heap.size) := Lib.hid (by have := HB.size; omega)
  replace HB := hb
  clear hb
  obtain ⟨w2, eW2, sW2, gz, hb⟩ := box w1 #[.int .i64 0, .int .i64 0, .int .i64 0, .bool false, .int .i64 0, .int .i64 0, .slice none 0 0, .int .i64 0] 47 (g := w.heap.size + 1) sW1 HB (by have := HB.size; omega)
  have Qgz : Hid (w.heap.size ≤ w.heap.size + 1 ∧ w.heap.size < w.heap.size + 1) := Lib.hid ⟨by have := HB.size; omega, by have := gc.lt; omega⟩
  replace gc := gc.al eW2
  replace HB := hb
  clear hb
  go_enter Tryz.func9, Tryz.ntmps9
  go_wp2_with (first | (refine wpList_load_row rfl 35 _ rfl (w.heap.size) rfl _ _ _ _ gc Tryz.underlying35 rfl (by kernel_rfl) ?_))
  with_reducible refine ((unhide K1) _ ((L.below HB).more HB.size)).mono ?_
  rintro e w3 ⟨rfl, hb⟩
  replace gc := gc.below hb gc.lt
  replace gz := gz.below hb gz.lt
  replace HB := HB.trans (hb.mono HB.size)
  clear hb
  clear eW1 sW1 eW2 sW2
  have gzc0 := gz.cell 0
  have gzc1 := gz.cell 1
  have gzc2 := gz.cell 2
  have gzc3 := gz.cell 3
  have gzc4 := gz.cell 4
  have gzc5 := gz.cell 5
  have gzc6 := gz.cell 6
  have gzc7 := gz.cell 7
  have fr0 := gz.frozen 0
  have fr1 := gz.frozen 1
  have fr2 := gz.frozen 2
  have fr3 := gz.frozen 3
  have fr4 := gz.frozen 4
  have fr5 := gz.frozen 5
  have fr6 := gz.frozen 6
  have fr7 := gz.frozen 7
  go_wp2
  obtain ⟨wz, hw⟩ : ∃ W, ((((((((w3.setCell ⟨w.heap.size + 1, 0, none⟩ (.int .i64 0)).setCell ⟨w.heap.size + 1, 1, none⟩ (.int .i64 0)).setCell ⟨w.heap.size + 1, 2, none⟩ (.int .i64 0)).setCell ⟨w.heap.size + 1, 3, none⟩ (.bool false)).setCell ⟨w.heap.size + 1, 4, none⟩ (.int .i64 0)).setCell ⟨w.heap.size + 1, 5, none⟩ (.int .i64 0)).setCell ⟨w.heap.size + 1, 6, none⟩ (.slice none 0 0)).setCell ⟨w.heap.size + 1, 7, none⟩ (.int .i64 0)) = W := ⟨_, rfl⟩
  have gy : Blk wz (w.heap.size + 1) 47 #[.int .i64 0, .int .i64 0, .int .i64 0, .bool false, .int .i64 0, .int .i64 0, .slice none 0 0, .int .i64 0] := hw ▸ gz.fill8 (.int .i64 0) (.int .i64 0) (.int .i64 0) (.bool false) (.int .i64 0) (.int .i64 0) (.slice none 0 0) (.int .i64 0)
  have zy : wz.heap.size = w3.heap.size := by rw [← hw]; simp
  have hy : Below w.heap.size w wz := hw ▸ below_fill8 HB (by omega) (.int .i64 0) (.int .i64 0) (.int .i64 0) (.bool false) (.int .i64 0) (.int .i64 0) (.slice none 0 0) (.int .i64 0)
  simp only [hw]
  clear hw
  exact bodyPost_ret (ret_cell_tmp rfl rfl (load_ps gy)) rfl ⟨rfl, hy⟩
set_option maxRecDepth 100000 in
set_option maxHeartbeats 3200000 in
theorem pstartM (P : Pc) (X : Pa) (amb : Int) (w : World) (L : Py w w.heap.size P X) (hc : plCode P = 0) :
    Calls Tryz.prog 9 #[.agg #[.int .i64 P.m.r, .int .i64 P.m.m, .slice X.A1 X.n1 X.c1, .slice X.A2 X.n2 X.c2, .slice X.A3 X.n3 X.c3, .slice X.A4 X.n4 X.c4, .int .i64 P.m.p, .int .i64 P.m.s, .int .i64 P.m.f, .int .i64 P.l.num, .int .i64 P.l.den, .int .i64 P.l.sup, .int .i64 P.l.fed, .int .i64 P.l.ohm, .int .i64 P.l.bon, .int .i64 P.l.boff, .int .i64 P.l.bohm, .int .i64 P.g, .int .i64 P.d, .int .i64 P.y, .slice X.B1 X.m1 X.d1, .slice X.B2 X.m2 X.d2, .slice X.B3 X.m3 X.d3, .int .i64 P.wi, .int .i64 P.sw], .int .i64 amb] w fun e w' => (∃ A, e = .returned (.tuple #[.agg #[.int .i64 P.m.m, .int .i64 0, .int .i64 P.l.sup, .bool false, .int .i64 0, .int .i64 0, .slice A 3 3, .int .i64 0], .nilIface]) ∧ Sl w' w'.heap.size 1 A (rows [warmV amb, warmV amb, warmV amb]) ∧ (∀ ad, A = some ad → w.heap.size ≤ ad.block)) ∧ Below w.heap.size w w' := by
  have ok := pl_ok hc
  have e1 := L.h.e1
  have k1 := fun (W : World) (h : Py W W.heap.size P X) => pckM P X W h
  simp only [hc, errV_zero] at k1
  have k2 := fun (W : World) (h : Py W W.heap.size P X) => gstartM P X W h ok.m
  have k3 := fun (W : World) => lstartM P.l W ok.l
  have k4 := fun (W : World) (h : Py W W.heap.size P X) => (hstartM P.h X.B1 X.B2 X.B3 X.m1 X.m2 X.m3 X.d1 X.d2 X.d3 X.PA X.PC amb W h.h ok.h (by rw [e1]; exact ok.n)).mono fun e w' (q : ∃ A, _ ∧ _ ∧ _ ∧ _) => (show (∃ A, e = .returned (.tuple #[.slice A 3 3, .nilIface]) ∧ Sl w' w'.heap.size 1 A (rows [warmV amb, warmV amb, warmV amb]) ∧ (∀ ad, A = some ad → W.heap.size ≤ ad.block)) ∧ Below W.heap.size W w' from let ⟨A, q1, q2, q3, q4⟩ := q; ⟨⟨A, q1, q2, q3⟩, q4⟩)
  have K1 := hide k1
  have K2 := hide k2
  have K3 := hide k3
  have K4 := hide k4
  clear k1 k2 k3 k4 e1 ok hc
  have HB := Below.refl w.heap.size w
  obtain ⟨w1, eW1, sW1, gc, hb⟩ := box w #[.int .i64 P.m.r, .int .i64 P.m.m, .slice X.A1 X.n1 X.c1, .slice X.A2 X.n2 X.c2, .slice X.A3 X.n3 X.c3, .slice X.A4 X.n4 X.c4, .int .i64 P.m.p, .int .i64 P.m.s, .int .i64 P.m.f, .int .i64 P.l.num, .int .i64 P.l.den, .int .i64 P.l.sup, .int .i64 P.l.fed, .int .i64 P.l.ohm, .int .i64 P.l.bon, .int .i64 P.l.boff, .int .i64 P.l.bohm, .int .i64 P.g, .int .i64 P.d, .int .i64 P.y, .slice X.B1 X.m1 X.d1, .slice X.B2 X.m2 X.d2, .slice X.B3 X.m3 X.d3, .int .i64 P.wi, .int .i64 P.sw] 35 (g := w.heap.size) rfl HB (by have := HB.size; omega)
  have Qgc : Hid (w.heap.size ≤ w.heap.size) := Lib.hid (by have := HB.size; omega)
  replace HB := hb
  clear hb
  obtain ⟨w2, eW2, sW2, gz, hb⟩ := box w1 #[.int .i64 0, .int .i64 0, .int .i64 0, .bool false, .int .i64 0, .int .i64 0, .slice none 0 0, .int .i64 0] 47 (g := w.heap.size + 1) sW1 HB (by have := HB.size; omega)
  have Qgz : Hid (w.heap.size ≤ w.heap.size + 1 ∧ w.heap.size < w.heap.size + 1) := Lib.hid ⟨by have := HB.size; omega, by have := gc.lt; omega⟩
  replace gc := gc.al eW2
  replace HB := hb
  clear hb
  go_enter Tryz.func9, Tryz.ntmps9
  go_wp2_with (first | (refine wpList_load_row rfl 35 _ rfl (w.heap.size) rfl _ _ _ _ gc Tryz.underlying35 rfl (by kernel_rfl) ?_))
  with_reducible refine ((unhide K1) _ ((L.below HB).more HB.size)).mono ?_
  rintro e w3 ⟨rfl, hb⟩
  replace gc := gc.below hb gc.lt
  replace gz := gz.below hb gz.lt
  replace HB := HB.trans (hb.mono HB.size)
  clear hb
  clear eW1 sW1 eW2 sW2
  have gcc0 := gc.cell 0
  have gcc1 := gc.cell 1
  have gcc2 := gc.cell 2
  have gcc3 := gc.cell 3
  have gcc4 := gc.cell 4
  have gcc5 := gc.cell 5
  have gcc6 := gc.cell 6
  have gcc7 := gc.cell 7
  have gcc8 := gc.cell 8
  go_wp2_with fail
  with_reducible refine ((unhide K2) _ ((L.below HB).more HB.size)).mono ?_
  rintro e w4 ⟨rfl, hb⟩
  replace gc := gc.below hb gc.lt
  replace gz := gz.below hb gz.lt
  replace HB := HB.trans (hb.mono HB.size)
  clear hb
  clear gcc0 gcc1 gcc2 gcc3 gcc4 gcc5 gcc6 gcc7 gcc8
  have lgc := gc.lt
  have lgz := gz.lt
  have gcc9 := gc.cell 9
  have gcc10 := gc.cell 10
  have gcc11 := gc.cell 11
  have gcc12 := gc.cell 12
  have gcc13 := gc.cell 13
  have gcc14 := gc.cell 14
  have gcc15 := gc.cell 15
  have gcc16 := gc.cell 16
  go_wp2_with fail
  obtain ⟨w5, eW5, sW5, gm, hb⟩ := box w4 #[.int .i64 P.m.m, .int .i64 0] 41 (g := w4.heap.size) rfl HB (by have := HB.size; omega)
  have Qgm : Hid (w.heap.size ≤ w4.heap.size ∧ w.heap.size < w4.heap.size ∧ w.heap.size + 1 < w4.heap.size) := Lib.hid ⟨by have := HB.size; omega, by have := gc.lt; omega, by have := gz.lt; omega⟩
  replace gc := gc.al eW5
  replace gz := gz.al eW5
  replace HB := hb
  clear hb
  simp only [eW5]
  with_reducible refine ((unhide K3) _).mono ?_
  rintro e w6 ⟨rfl, hb⟩
  replace gc := gc.below hb gc.lt
  replace gz := gz.below hb gz.lt
  replace gm := gm.below hb gm.lt
  replace HB := HB.trans (hb.mono HB.size)
  clear hb
  clear lgc lgz gcc9 gcc10 gcc11 gcc12 gcc13 gcc14 gcc15 gcc16 eW5 sW5
  have lgc := gc.lt
  have lgz := gz.lt
  have lgm := gm.lt
  have gcc20 := gc.cell 20
  have gcc21 := gc.cell 21
  have gcc22 := gc.cell 22
  go_wp2_with fail
  obtain ⟨w7, eW7, sW7, gl, hb⟩ := box w6 #[.int .i64 P.l.sup, .bool false] 43 (g := w6.heap.size) rfl HB (by have := HB.size; omega)
  have Qgl : Hid (w.heap.size ≤ w6.heap.size ∧ w.heap.size < w6.heap.size ∧ w.heap.size + 1 < w6.heap.size ∧ w4.heap.size < w6.heap.size) := Lib.hid ⟨by have := HB.size; omega, by have := gc.lt; omega, by have := gz.lt; omega, by have := gm.lt; omega⟩
  replace gc := gc.al eW7
  replace gz := gz.al eW7
  replace gm := gm.al eW7
  replace HB := hb
  clear hb
  simp only [eW7]
  have HB5 := gz.lt
  with_reducible refine ((unhide K4) _ ((L.below HB).more HB.size)).mono ?_
  rintro e w8 ⟨⟨A, rfl, SA, fA⟩, hb⟩
  replace gc := gc.below hb gc.lt
  replace gz := gz.below hb gz.lt
  replace gm := gm.below hb gm.lt
  replace gl := gl.below hb gl.lt
  replace HB := HB.trans (hb.mono HB.size)
  clear hb
  clear lgc lgz lgm gcc20 gcc21 gcc22 eW7 sW7
  have gmc0 := gm.cell 0
  have gmc1 := gm.cell 1
  have glc0 := gl.cell 0
  have glc1 := gl.cell 1
  have gzc0 := gz.cell 0
  have gzc1 := gz.cell 1
  have gzc2 := gz.cell 2
  have gzc3 := gz.cell 3
  have gzc4 := gz.cell 4
  have gzc5 := gz.cell 5
  have gzc6 := gz.cell 6
  have gzc7 := gz.cell 7
  have fr0 := gz.frozen 0
  have fr1 := gz.frozen 1
  have fr2 := gz.frozen 2
  have fr3 := gz.frozen 3
  have fr4 := gz.frozen 4
  have fr5 := gz.frozen 5
  have fr6 := gz.frozen 6
  have fr7 := gz.frozen 7
  go_wp2
  obtain ⟨wz, hw⟩ : ∃ W, ((((((((w8.setCell ⟨w.heap.size + 1, 0, none⟩ (.int .i64 P.m.m)).setCell ⟨w.heap.size + 1, 1, none⟩ (.int .i64 0)).setCell ⟨w.heap.size + 1, 2, none⟩ (.int .i64 P.l.sup)).setCell ⟨w.heap.size + 1, 3, none⟩ (.bool false)).setCell ⟨w.heap.size + 1, 4, none⟩ (.int .i64 0)).setCell ⟨w.heap.size + 1, 5, none⟩ (.int .i64 0)).setCell ⟨w.heap.size + 1, 6, none⟩ (.slice A 3 3)).setCell ⟨w.heap.size + 1, 7, none⟩ (.int .i64 0)) = W := ⟨_, rfl⟩
  have gy : Blk wz (w.heap.size + 1) 47 #[.int .i64 P.m.m, .int .i64 0, .int .i64 P.l.sup, .bool false, .int .i64 0, .int .i64 0, .slice A 3 3, .int .i64 0] := hw ▸ gz.fill8 (.int .i64 P.m.m) (.int .i64 0) (.int .i64 P.l.sup) (.bool false) (.int .i64 0) (.int .i64 0) (.slice A 3 3) (.int .i64 0)
  have zy : wz.heap.size = w8.heap.size := by rw [← hw]; simp
  have hy : Below w.heap.size w wz := hw ▸ below_fill8 HB (by omega) (.int .i64 P.m.m) (.int .i64 0) (.int .i64 P.l.sup) (.bool false) (.int .i64 0) (.int .i64 0) (.slice A 3 3) (.int .i64 0)
  have sy : Sl wz _ 1 A (rows [warmV amb, warmV amb, warmV amb]) := hw ▸ SA.fill8 (g := w.heap.size + 1) (fun ad h => by have := fA ad h; have := HB5; omega) (.int .i64 P.m.m) (.int .i64 0) (.int .i64 P.l.sup) (.bool false) (.int .i64 0) (.int .i64 0) (.slice A 3 3) (.int .i64 0)
  simp only [hw]
  clear hw
  exact bodyPost_ret (ret_cell_tmp rfl rfl (load_ps gy)) rfl ⟨⟨A, rfl, sy.more (by omega), fun ad h => by have := fA ad h; have := HB5; omega⟩, hy⟩
end Go.Proofs.YtpfkiohknpeifaaGreat
