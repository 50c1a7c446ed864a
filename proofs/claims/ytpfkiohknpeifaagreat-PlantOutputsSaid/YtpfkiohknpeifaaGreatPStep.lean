/- The walk of plant.Step. -/
import Derived.Test.YtpfkiohknpeifaaGreatPStart
import Derived.Deep.Cut
namespace Go.Proofs.YtpfkiohknpeifaaGreat
open Go.RowKit
set_option maxRecDepth 100000 in
set_option maxHeartbeats 6400000 in
theorem pstepM_1 (P : Pc) (X : Pa) (s : Ps) (YA : Option Addr) (yn yc : Nat) (z : Pi) (GA : Option Addr) (gn gc : Nat) (w : World) (L : Py w w.heap.size P X) (hc : plCode P ≠ 0) :
    Calls Tryz.prog 14 #[.agg #[.int .i64 P.m.r, .int .i64 P.m.m, .slice X.A1 X.n1 X.c1, .slice X.A2 X.n2 X.c2, .slice X.A3 X.n3 X.c3, .slice X.A4 X.n4 X.c4, .int .i64 P.m.p, .int .i64 P.m.s, .int .i64 P.m.f, .int .i64 P.l.num, .int .i64 P.l.den, .int .i64 P.l.sup, .int .i64 P.l.fed, .int .i64 P.l.ohm, .int .i64 P.l.bon, .int .i64 P.l.boff, .int .i64 P.l.bohm, .int .i64 P.g, .int .i64 P.d, .int .i64 P.y, .slice X.B1 X.m1 X.d1, .slice X.B2 X.m2 X.d2, .slice X.B3 X.m3 X.d3, .int .i64 P.wi, .int .i64 P.sw], .agg #[.int .i64 s.fd, .int .i64 s.fq, .int .i64 s.v, .bool s.b, .int .i64 s.po, .int .i64 s.sp, .slice YA yn yc, .int .i64 s.tn], .agg #[.int .i64 z.per, .bool z.b0, .bool z.b1, .bool z.b2, .bool z.b3, .bool z.b4, .bool z.b5, .slice GA gn gc, .int .i64 z.ld, .int .i64 z.amb, .bool z.k0, .bool z.k1, .bool z.k2, .bool z.k3, .bool z.k4, .bool z.k5, .bool z.de, .bool z.nb]] w fun e w' => e = .returned (.tuple #[.agg #[.int .i64 0, .int .i64 0, .int .i64 0, .bool false, .int .i64 0, .int .i64 0, .slice none 0 0, .int .i64 0], (errV (plCode P))]) ∧ Below w.heap.size w w' := by
  have k1 := fun (W : World) (h : Py W W.heap.size P X) => pckM P X W h
  simp only [errV_ne hc] at k1
  rw [errV_ne hc]
  have K1 := hide k1
  clear k1 hc
  skip
  have HB := Below.refl w.heap.size w
  obtain ⟨w1, eW1, sW1, rc, hb⟩ := box w #[.int .i64 P.m.r, .int .i64 P.m.m, .slice X.A1 X.n1 X.c1, .slice X.A2 X.n2 X.c2, .slice X.A3 X.n3 X.c3, .slice X.A4 X.n4 X.c4, .int .i64 P.m.p, .int .i64 P.m.s, .int .i64 P.m.f, .int .i64 P.l.num, .int .i64 P.l.den, .int .i64 P.l.sup, .int .i64 P.l.fed, .int .i64 P.l.ohm, .int .i64 P.l.bon, .int .i64 P.l.boff, .int .i64 P.l.bohm, .int .i64 P.g, .int .i64 P.d, .int .i64 P.y, .slice X.B1 X.m1 X.d1, .slice X.B2 X.m2 X.d2, .slice X.B3 X.m3 X.d3, .int .i64 P.wi, .int .i64 P.sw] 35 (g := w.heap.size) rfl HB (by have := HB.size; omega)
  have Qrc : Hid (w.heap.size ≤ w.heap.size) := Lib.hid (by have := HB.size; omega)
  replace HB := hb
  clear hb
  obtain ⟨w2, eW2, sW2, rs, hb⟩ := box w1 #[.int .i64 s.fd, .int .i64 s.fq, .int .i64 s.v, .bool s.b, .int .i64 s.po, .int .i64 s.sp, .slice YA yn yc, .int .i64 s.tn] 47 (g := w.heap.size + 1) sW1 HB (by have := HB.size; omega)
  have Qrs : Hid (w.heap.size ≤ w.heap.size + 1 ∧ w.heap.size < w.heap.size + 1) := Lib.hid ⟨by have := HB.size; omega, by have := rc.lt; omega⟩
  replace rc := rc.al eW2
  replace HB := hb
  clear hb
  obtain ⟨w3, eW3, sW3, ri, hb⟩ := box w2 #[.int .i64 z.per, .bool z.b0, .bool z.b1, .bool z.b2, .bool z.b3, .bool z.b4, .bool z.b5, .slice GA gn gc, .int .i64 z.ld, .int .i64 z.amb, .bool z.k0, .bool z.k1, .bool z.k2, .bool z.k3, .bool z.k4, .bool z.k5, .bool z.de, .bool z.nb] 53 (g := w.heap.size + 1 + 1) sW2 HB (by have := HB.size; omega)
  have Qri : Hid (w.heap.size ≤ w.heap.size + 1 + 1 ∧ w.heap.size < w.heap.size + 1 + 1 ∧ w.heap.size + 1 < w.heap.size + 1 + 1) := Lib.hid ⟨by have := HB.size; omega, by have := rc.lt; omega, by have := rs.lt; omega⟩
  replace rc := rc.al eW3
  replace rs := rs.al eW3
  replace HB := hb
  clear hb
  obtain ⟨w4, eW4, sW4, gz, hb⟩ := box w3 #[.int .i64 0, .int .i64 0, .int .i64 0, .bool false, .int .i64 0, .int .i64 0, .slice none 0 0, .int .i64 0] 47 (g := w.heap.size + 1 + 1 + 1) sW3 HB (by have := HB.size; omega)
  have Qgz : Hid (w.heap.size ≤ w.heap.size + 1 + 1 + 1 ∧ w.heap.size < w.heap.size + 1 + 1 + 1 ∧ w.heap.size + 1 < w.heap.size + 1 + 1 + 1 ∧ w.heap.size + 1 + 1 < w.heap.size + 1 + 1 + 1) := Lib.hid ⟨by have := HB.size; omega, by have := rc.lt; omega, by have := rs.lt; omega, by have := ri.lt; omega⟩
  replace rc := rc.al eW4
  replace rs := rs.al eW4
  replace ri := ri.al eW4
  replace HB := hb
  clear hb
  go_enter Tryz.func14, Tryz.ntmps14
  go_wp2_with (first | (refine wpList_load_row rfl 35 _ rfl (w.heap.size) rfl _ _ _ _ rc Tryz.underlying35 rfl (by kernel_rfl) ?_))
  with_reducible refine ((unhide K1) _ ((L.below HB).more HB.size)).mono ?_
  rintro e w5 ⟨rfl, hb⟩
  replace rc := rc.below hb rc.lt
  replace rs := rs.below hb rs.lt
  replace ri := ri.below hb ri.lt
  replace gz := gz.below hb gz.lt
  replace HB := HB.trans (hb.mono HB.size)
  clear hb
  clear eW1 sW1 eW2 sW2 eW3 sW3 eW4 sW4
  have gzc0 := gz.cell 0
  have gzc1 := gz.cell 1
  have gzc2 := gz.cell 2
  have gzc3 := gz.cell 3
  have gzc4 := gz.cell 4
  have gzc5 := gz.cell 5
  have gzc6 := gz.cell 6
  have gzc7 := gz.cell 7
  have fr0 := gz.frozen 0
  have fr1 := gz.frozen 1
  have fr2 := gz.frozen 2
  have fr3 := gz.frozen 3
  have fr4 := gz.frozen 4
  have fr5 := gz.frozen 5
  have fr6 := gz.frozen 6
  have fr7 := gz.frozen 7
  go_wp2
  obtain ⟨wz, hw⟩ : ∃ W, ((((((((w5.setCell ⟨w.heap.size + 1 + 1 + 1, 0, none⟩ (.int .i64 0)).setCell ⟨w.heap.size + 1 + 1 + 1, 1, none⟩ (.int .i64 0)).setCell ⟨w.heap.size + 1 + 1 + 1, 2, none⟩ (.int .i64 0)).setCell ⟨w.heap.size + 1 + 1 + 1, 3, none⟩ (.bool false)).setCell ⟨w.heap.size + 1 + 1 + 1, 4, none⟩ (.int .i64 0)).setCell ⟨w.heap.size + 1 + 1 + 1, 5, none⟩ (.int .i64 0)).setCell ⟨w.heap.size + 1 + 1 + 1, 6, none⟩ (.slice none 0 0)).setCell ⟨w.heap.size + 1 + 1 + 1, 7, none⟩ (.int .i64 0)) = W := ⟨_, rfl⟩
  have gy : Blk wz (w.heap.size + 1 + 1 + 1) 47 #[.int .i64 0, .int .i64 0, .int .i64 0, .bool false, .int .i64 0, .int .i64 0, .slice none 0 0, .int .i64 0] := hw ▸ gz.fill8 (.int .i64 0) (.int .i64 0) (.int .i64 0) (.bool false) (.int .i64 0) (.int .i64 0) (.slice none 0 0) (.int .i64 0)
  have zy : wz.heap.size = w5.heap.size := by rw [← hw]; simp
  have hy : Below w.heap.size w wz := hw ▸ below_fill8 HB (by omega) (.int .i64 0) (.int .i64 0) (.int .i64 0) (.bool false) (.int .i64 0) (.int .i64 0) (.slice none 0 0) (.int .i64 0)
  simp only [hw]
  clear hw
  exact bodyPost_ret (ret_cell_tmp rfl rfl (load_ps gy)) rfl ⟨rfl, hy⟩
set_option maxRecDepth 100000 in
set_option maxHeartbeats 6400000 in
theorem pstepM_2 (P : Pc) (X : Pa) (s : Ps) (YA : Option Addr) (yn yc : Nat) (z : Pi) (GA : Option Addr) (gn gc : Nat) (w : World) (L : Py w w.heap.size P X) (ey : yn = s.h.length) (hc : plCode P = 0) (h3 : s.h.length ≠ 3) :
    Calls Tryz.prog 14 #[.agg #[.int .i64 P.m.r, .int .i64 P.m.m, .slice X.A1 X.n1 X.c1, .slice X.A2 X.n2 X.c2, .slice X.A3 X.n3 X.c3, .slice X.A4 X.n4 X.c4, .int .i64 P.m.p, .int .i64 P.m.s, .int .i64 P.m.f, .int .i64 P.l.num, .int .i64 P.l.den, .int .i64 P.l.sup, .int .i64 P.l.fed, .int .i64 P.l.ohm, .int .i64 P.l.bon, .int .i64 P.l.boff, .int .i64 P.l.bohm, .int .i64 P.g, .int .i64 P.d, .int .i64 P.y, .slice X.B1 X.m1 X.d1, .slice X.B2 X.m2 X.d2, .slice X.B3 X.m3 X.d3, .int .i64 P.wi, .int .i64 P.sw], .agg #[.int .i64 s.fd, .int .i64 s.fq, .int .i64 s.v, .bool s.b, .int .i64 s.po, .int .i64 s.sp, .slice YA yn yc, .int .i64 s.tn], .agg #[.int .i64 z.per, .bool z.b0, .bool z.b1, .bool z.b2, .bool z.b3, .bool z.b4, .bool z.b5, .slice GA gn gc, .int .i64 z.ld, .int .i64 z.amb, .bool z.k0, .bool z.k1, .bool z.k2, .bool z.k3, .bool z.k4, .bool z.k5, .bool z.de, .bool z.nb]] w fun e w' => e = .returned (.tuple #[.agg #[.int .i64 0, .int .i64 0, .int .i64 0, .bool false, .int .i64 0, .int .i64 0, .slice none 0 0, .int .i64 0], (errV 11)]) ∧ Below w.heap.size w w' := by
  have ok := pl_ok hc
  have k1 := fun (W : World) (h : Py W W.heap.size P X) => pckM P X W h
  simp only [hc, errV_zero] at k1
  have K1 := hide k1
  clear k1
  have h3i : ¬ yn = 3 := by omega
  have h3j : ¬ (yn : Int) = 3 := by omega
  clear h3 ey
  clear ok hc
  have HB := Below.refl w.heap.size w
  obtain ⟨w1, eW1, sW1, rc, hb⟩ := box w #[.int .i64 P.m.r, .int .i64 P.m.m, .slice X.A1 X.n1 X.c1, .slice X.A2 X.n2 X.c2, .slice X.A3 X.n3 X.c3, .slice X.A4 X.n4 X.c4, .int .i64 P.m.p, .int .i64 P.m.s, .int .i64 P.m.f, .int .i64 P.l.num, .int .i64 P.l.den, .int .i64 P.l.sup, .int .i64 P.l.fed, .int .i64 P.l.ohm, .int .i64 P.l.bon, .int .i64 P.l.boff, .int .i64 P.l.bohm, .int .i64 P.g, .int .i64 P.d, .int .i64 P.y, .slice X.B1 X.m1 X.d1, .slice X.B2 X.m2 X.d2, .slice X.B3 X.m3 X.d3, .int .i64 P.wi, .int .i64 P.sw] 35 (g := w.heap.size) rfl HB (by have := HB.size; omega)
  have Qrc : Hid (w.heap.size ≤ w.heap.size) := Lib.hid (by have := HB.size; omega)
  replace HB := hb
  clear hb
  obtain ⟨w2, eW2, sW2, rs, hb⟩ := box w1 #[.int .i64 s.fd, .int .i64 s.fq, .int .i64 s.v, .bool s.b, .int .i64 s.po, .int .i64 s.sp, .slice YA yn yc, .int .i64 s.tn] 47 (g := w.heap.size + 1) sW1 HB (by have := HB.size; omega)
  have Qrs : Hid (w.heap.size ≤ w.heap.size + 1 ∧ w.heap.size < w.heap.size + 1) := Lib.hid ⟨by have := HB.size; omega, by have := rc.lt; omega⟩
  replace rc := rc.al eW2
  replace HB := hb
  clear hb
  obtain ⟨w3, eW3, sW3, ri, hb⟩ := box w2 #[.int .i64 z.per, .bool z.b0, .bool z.b1, .bool z.b2, .bool z.b3, .bool z.b4, .bool z.b5, .slice GA gn gc, .int .i64 z.ld, .int .i64 z.amb, .bool z.k0, .bool z.k1, .bool z.k2, .bool z.k3, .bool z.k4, .bool z.k5, .bool z.de, .bool z.nb] 53 (g := w.heap.size + 1 + 1) sW2 HB (by have := HB.size; omega)
  have Qri : Hid (w.heap.size ≤ w.heap.size + 1 + 1 ∧ w.heap.size < w.heap.size + 1 + 1 ∧ w.heap.size + 1 < w.heap.size + 1 + 1) := Lib.hid ⟨by have := HB.size; omega, by have := rc.lt; omega, by have := rs.lt; omega⟩
  replace rc := rc.al eW3
  replace rs := rs.al eW3
  replace HB := hb
  clear hb
  obtain ⟨w4, eW4, sW4, gz, hb⟩ := box w3 #[.int .i64 0, .int .i64 0, .int .i64 0, .bool false, .int .i64 0, .int .i64 0, .slice none 0 0, .int .i64 0] 47 (g := w.heap.size + 1 + 1 + 1) sW3 HB (by have := HB.size; omega)
  have Qgz : Hid (w.heap.size ≤ w.heap.size + 1 + 1 + 1 ∧ w.heap.size < w.heap.size + 1 + 1 + 1 ∧ w.heap.size + 1 < w.heap.size + 1 + 1 + 1 ∧ w.heap.size + 1 + 1 < w.heap.size + 1 + 1 + 1) := Lib.hid ⟨by have := HB.size; omega, by have := rc.lt; omega, by have := rs.lt; omega, by have := ri.lt; omega⟩
  replace rc := rc.al eW4
  replace rs := rs.al eW4
  replace ri := ri.al eW4
  replace HB := hb
  clear hb
  go_enter Tryz.func14, Tryz.ntmps14
  go_wp2_with (first | (refine wpList_load_row rfl 35 _ rfl (w.heap.size) rfl _ _ _ _ rc Tryz.underlying35 rfl (by kernel_rfl) ?_))
  with_reducible refine ((unhide K1) _ ((L.below HB).more HB.size)).mono ?_
  rintro e w5 ⟨rfl, hb⟩
  replace rc := rc.below hb rc.lt
  replace rs := rs.below hb rs.lt
  replace ri := ri.below hb ri.lt
  replace gz := gz.below hb gz.lt
  replace HB := HB.trans (hb.mono HB.size)
  clear hb
  clear eW1 sW1 eW2 sW2 eW3 sW3 eW4 sW4
  have rsc6 := rs.cell 6
  have gzc0 := gz.cell 0
  have gzc1 := gz.cell 1
  have gzc2 := gz.cell 2
  have gzc3 := gz.cell 3
  have gzc4 := gz.cell 4
  have gzc5 := gz.cell 5
  have gzc6 := gz.cell 6
  have gzc7 := gz.cell 7
  have fr0 := gz.frozen 0
  have fr1 := gz.frozen 1
  have fr2 := gz.frozen 2
  have fr3 := gz.frozen 3
  have fr4 := gz.frozen 4
  have fr5 := gz.frozen 5
  have fr6 := gz.frozen 6
  have fr7 := gz.frozen 7
  go_wp2
  obtain ⟨wz, hw⟩ : ∃ W, ((((((((w5.setCell ⟨w.heap.size + 1 + 1 + 1, 0, none⟩ (.int .i64 0)).setCell ⟨w.heap.size + 1 + 1 + 1, 1, none⟩ (.int .i64 0)).setCell ⟨w.heap.size + 1 + 1 + 1, 2, none⟩ (.int .i64 0)).setCell ⟨w.heap.size + 1 + 1 + 1, 3, none⟩ (.bool false)).setCell ⟨w.heap.size + 1 + 1 + 1, 4, none⟩ (.int .i64 0)).setCell ⟨w.heap.size + 1 + 1 + 1, 5, none⟩ (.int .i64 0)).setCell ⟨w.heap.size + 1 + 1 + 1, 6, none⟩ (.slice none 0 0)).setCell ⟨w.heap.size + 1 + 1 + 1, 7, none⟩ (.int .i64 0)) = W := ⟨_, rfl⟩
  have gy : Blk wz (w.heap.size + 1 + 1 + 1) 47 #[.int .i64 0, .int .i64 0, .int .i64 0, .bool false, .int .i64 0, .int .i64 0, .slice none 0 0, .int .i64 0] := hw ▸ gz.fill8 (.int .i64 0) (.int .i64 0) (.int .i64 0) (.bool false) (.int .i64 0) (.int .i64 0) (.slice none 0 0) (.int .i64 0)
  have zy : wz.heap.size = w5.heap.size := by rw [← hw]; simp
  have hy : Below w.heap.size w wz := hw ▸ below_fill8 HB (by omega) (.int .i64 0) (.int .i64 0) (.int .i64 0) (.bool false) (.int .i64 0) (.int .i64 0) (.slice none 0 0) (.int .i64 0)
  simp only [hw]
  clear hw
  exact bodyPost_ret (ret_cell_tmp rfl rfl (load_ps gy)) rfl ⟨rfl, hy⟩
set_option maxRecDepth 100000 in
set_option maxHeartbeats 6400000 in
theorem pstepM_3 (P : Pc) (X : Pa) (s : Ps) (YA : Option Addr) (yn yc : Nat) (z : Pi) (GA : Option Addr) (gn gc : Nat) (w : World) (L : Py w w.heap.size P X) (ey : yn = s.h.length) (SG : Sl w w.heap.size 3 GA (z.es.map I.Ed.row)) (eg : gn = z.es.length) (gm : gn ≤ 1000000) (hc : plCode P = 0) (h3 : s.h.length = 3) (hk : I.chk z.per z.es ≠ 0) :
    Calls Tryz.prog 14 #[.agg #[.int .i64 P.m.r, .int .i64 P.m.m, .slice X.A1 X.n1 X.c1, .slice X.A2 X.n2 X.c2, .slice X.A3 X.n3 X.c3, .slice X.A4 X.n4 X.c4, .int .i64 P.m.p, .int .i64 P.m.s, .int .i64 P.m.f, .int .i64 P.l.num, .int .i64 P.l.den, .int .i64 P.l.sup, .int .i64 P.l.fed, .int .i64 P.l.ohm, .int .i64 P.l.bon, .int .i64 P.l.boff, .int .i64 P.l.bohm, .int .i64 P.g, .int .i64 P.d, .int .i64 P.y, .slice X.B1 X.m1 X.d1, .slice X.B2 X.m2 X.d2, .slice X.B3 X.m3 X.d3, .int .i64 P.wi, .int .i64 P.sw], .agg #[.int .i64 s.fd, .int .i64 s.fq, .int .i64 s.v, .bool s.b, .int .i64 s.po, .int .i64 s.sp, .slice YA yn yc, .int .i64 s.tn], .agg #[.int .i64 z.per, .bool z.b0, .bool z.b1, .bool z.b2, .bool z.b3, .bool z.b4, .bool z.b5, .slice GA gn gc, .int .i64 z.ld, .int .i64 z.amb, .bool z.k0, .bool z.k1, .bool z.k2, .bool z.k3, .bool z.k4, .bool z.k5, .bool z.de, .bool z.nb]] w fun e w' => e = .returned (.tuple #[.agg #[.int .i64 0, .int .i64 0, .int .i64 0, .bool false, .int .i64 0, .int .i64 0, .slice none 0 0, .int .i64 0], (errV (I.chk z.per z.es))]) ∧ Below w.heap.size w w' := by
  have ok := pl_ok hc
  have k1 := fun (W : World) (h : Py W W.heap.size P X) => pckM P X W h
  simp only [hc, errV_zero] at k1
  have K1 := hide k1
  clear k1
  obtain rfl : yn = 3 := by omega
  have k2 := fun (W : World) (h : Sl W W.heap.size 3 GA (z.es.map I.Ed.row)) => I.chk_walk z.per z.b0 z.b1 z.b2 z.b3 z.b4 z.b5 GA gn gc z.es W h eg gm
  simp only [errV_I, errV_ne hk] at k2
  rw [errV_ne hk]
  have K2 := hide k2
  clear k2 hk h3 ey eg gm
  clear ok hc
  have HB := Below.refl w.heap.size w
  obtain ⟨w1, eW1, sW1, rc, hb⟩ := box w #[.int .i64 P.m.r, .int .i64 P.m.m, .slice X.A1 X.n1 X.c1, .slice X.A2 X.n2 X.c2, .slice X.A3 X.n3 X.c3, .slice X.A4 X.n4 X.c4, .int .i64 P.m.p, .int .i64 P.m.s, .int .i64 P.m.f, .int .i64 P.l.num, .int .i64 P.l.den, .int .i64 P.l.sup, .int .i64 P.l.fed, .int .i64 P.l.ohm, .int .i64 P.l.bon, .int .i64 P.l.boff, .int .i64 P.l.bohm, .int .i64 P.g, .int .i64 P.d, .int .i64 P.y, .slice X.B1 X.m1 X.d1, .slice X.B2 X.m2 X.d2, .slice X.B3 X.m3 X.d3, .int .i64 P.wi, .int .i64 P.sw] 35 (g := w.heap.size) rfl HB (by have := HB.size; omega)
  have Qrc : Hid (w.heap.size ≤ w.heap.size) := Lib.hid (by have := HB.size; omega)
  replace HB := hb
  clear hb
  obtain ⟨w2, eW2, sW2, rs, hb⟩ := box w1 #[.int .i64 s.fd, .int .i64 s.fq, .int .i64 s.v, .bool s.b, .int .i64 s.po, .int .i64 s.sp, .slice YA 3 yc, .int .i64 s.tn] 47 (g := w.heap.size + 1) sW1 HB (by have := HB.size; omega)
  have Qrs : Hid (w.heap.size ≤ w.heap.size + 1 ∧ w.heap.size < w.heap.size + 1) := Lib.hid ⟨by have := HB.size; omega, by have := rc.lt; omega⟩
  replace rc := rc.al eW2
  replace HB := hb
  clear hb
  obtain ⟨w3, eW3, sW3, ri, hb⟩ := box w2 #[.int .i64 z.per, .bool z.b0, .bool z.b1, .bool z.b2, .bool z.b3, .bool z.b4, .bool z.b5, .slice GA gn gc, .int .i64 z.ld, .int .i64 z.amb, .bool z.k0, .bool z.k1, .bool z.k2, .bool z.k3, .bool z.k4, .bool z.k5, .bool z.de, .bool z.nb] 53 (g := w.heap.size + 1 + 1) sW2 HB (by have := HB.size; omega)
  have Qri : Hid (w.heap.size ≤ w.heap.size + 1 + 1 ∧ w.heap.size < w.heap.size + 1 + 1 ∧ w.heap.size + 1 < w.heap.size + 1 + 1) := Lib.hid ⟨by have := HB.size; omega, by have := rc.lt; omega, by have := rs.lt; omega⟩
  replace rc := rc.al eW3
  replace rs := rs.al eW3
  replace HB := hb
  clear hb
  obtain ⟨w4, eW4, sW4, gz, hb⟩ := box w3 #[.int .i64 0, .int .i64 0, .int .i64 0, .bool false, .int .i64 0, .int .i64 0, .slice none 0 0, .int .i64 0] 47 (g := w.heap.size + 1 + 1 + 1) sW3 HB (by have := HB.size; omega)
  have Qgz : Hid (w.heap.size ≤ w.heap.size + 1 + 1 + 1 ∧ w.heap.size < w.heap.size + 1 + 1 + 1 ∧ w.heap.size + 1 < w.heap.size + 1 + 1 + 1 ∧ w.heap.size + 1 + 1 < w.heap.size + 1 + 1 + 1) := Lib.hid ⟨by have := HB.size; omega, by have := rc.lt; omega, by have := rs.lt; omega, by have := ri.lt; omega⟩
  replace rc := rc.al eW4
  replace rs := rs.al eW4
  replace ri := ri.al eW4
  replace HB := hb
  clear hb
  go_enter Tryz.func14, Tryz.ntmps14
  go_wp2_with (first | (refine wpList_load_row rfl 35 _ rfl (w.heap.size) rfl _ _ _ _ rc Tryz.underlying35 rfl (by kernel_rfl) ?_))
  with_reducible refine ((unhide K1) _ ((L.below HB).more HB.size)).mono ?_
  rintro e w5 ⟨rfl, hb⟩
  replace rc := rc.below hb rc.lt
  replace rs := rs.below hb rs.lt
  replace ri := ri.below hb ri.lt
  replace gz := gz.below hb gz.lt
  replace HB := HB.trans (hb.mono HB.size)
  clear hb
  clear eW1 sW1 eW2 sW2 eW3 sW3 eW4 sW4
  have rsc6 := rs.cell 6
  have ric0 := ri.cell 0
  have ric1 := ri.cell 1
  have ric2 := ri.cell 2
  have ric3 := ri.cell 3
  have ric4 := ri.cell 4
  have ric5 := ri.cell 5
  have ric6 := ri.cell 6
  have ric7 := ri.cell 7
  go_wp2_with fail
  with_reducible refine ((unhide K2) _ ((SG.below HB).more HB.size)).mono ?_
  rintro e w6 ⟨rfl, hb⟩
  replace rc := rc.below hb rc.lt
  replace rs := rs.below hb rs.lt
  replace ri := ri.below hb ri.lt
  replace gz := gz.below hb gz.lt
  replace HB := HB.trans (hb.mono HB.size)
  clear hb
  clear rsc6 ric0 ric1 ric2 ric3 ric4 ric5 ric6 ric7
  have gzc0 := gz.cell 0
  have gzc1 := gz.cell 1
  have gzc2 := gz.cell 2
  have gzc3 := gz.cell 3
  have gzc4 := gz.cell 4
  have gzc5 := gz.cell 5
  have gzc6 := gz.cell 6
  have gzc7 := gz.cell 7
  have fr0 := gz.frozen 0
  have fr1 := gz.frozen 1
  have fr2 := gz.frozen 2
  have fr3 := gz.frozen 3
  have fr4 := gz.frozen 4
  have fr5 := gz.frozen 5
  have fr6 := gz.frozen 6
  have fr7 := gz.frozen 7
  go_wp2
  obtain ⟨wz, hw⟩ : ∃ W, ((((((((w6.setCell ⟨w.heap.size + 1 + 1 + 1, 0, none⟩ (.int .i64 0)).setCell ⟨w.heap.size + 1 + 1 + 1, 1, none⟩ (.int .i64 0)).setCell ⟨w.heap.size + 1 + 1 + 1, 2, none⟩ (.int .i64 0)).setCell ⟨w.heap.size + 1 + 1 + 1, 3, none⟩ (.bool false)).setCell ⟨w.heap.size + 1 + 1 + 1, 4, none⟩ (.int .i64 0)).setCell ⟨w.heap.size + 1 + 1 + 1, 5, none⟩ (.int .i64 0)).setCell ⟨w.heap.size + 1 + 1 + 1, 6, none⟩ (.slice none 0 0)).setCell ⟨w.heap.size + 1 + 1 + 1, 7, none⟩ (.int .i64 0)) = W := ⟨_, rfl⟩
  have gy : Blk wz (w.heap.size + 1 + 1 + 1) 47 #[.int .i64 0, .int .i64 0, .int .i64 0, .bool false, .int .i64 0, .int .i64 0, .slice none 0 0, .int .i64 0] := hw ▸ gz.fill8 (.int .i64 0) (.int .i64 0) (.int .i64 0) (.bool false) (.int .i64 0) (.int .i64 0) (.slice none 0 0) (.int .i64 0)
  have zy : wz.heap.size = w6.heap.size := by rw [← hw]; simp
  have hy : Below w.heap.size w wz := hw ▸ below_fill8 HB (by omega) (.int .i64 0) (.int .i64 0) (.int .i64 0) (.bool false) (.int .i64 0) (.int .i64 0) (.slice none 0 0) (.int .i64 0)
  simp only [hw]
  clear hw
  exact bodyPost_ret (ret_cell_tmp rfl rfl (load_ps gy)) rfl ⟨rfl, hy⟩
set_option maxRecDepth 100000 in
set_option maxHeartbeats 6400000 in
theorem pstepM_4 (P : Pc) (X : Pa) (s : Ps) (YA : Option Addr) (yn yc : Nat) (z : Pi) (GA : Option Addr) (gn gc : Nat) (w : World) (L : Py w w.heap.size P X) (ey : yn = s.h.length) (SG : Sl w w.heap.size 3 GA (z.es.map I.Ed.row)) (eg : gn = z.es.length) (gm : gn ≤ 1000000) (hc : plCode P = 0) (h3 : s.h.length = 3) (hk : I.chk z.per z.es = 0) (hs : I.shrt z.per (zOn z) (zEs z) = true) :
    Calls Tryz.prog 14 #[.agg #[.int .i64 P.m.r, .int .i64 P.m.m, .slice X.A1 X.n1 X.c1, .slice X.A2 X.n2 X.c2, .slice X.A3 X.n3 X.c3, .slice X.A4 X.n4 X.c4, .int .i64 P.m.p, .int .i64 P.m.s, .int .i64 P.m.f, .int .i64 P.l.num, .int .i64 P.l.den, .int .i64 P.l.sup, .int .i64 P.l.fed, .int .i64 P.l.ohm, .int .i64 P.l.bon, .int .i64 P.l.boff, .int .i64 P.l.bohm, .int .i64 P.g, .int .i64 P.d, .int .i64 P.y, .slice X.B1 X.m1 X.d1, .slice X.B2 X.m2 X.d2, .slice X.B3 X.m3 X.d3, .int .i64 P.wi, .int .i64 P.sw], .agg #[.int .i64 s.fd, .int .i64 s.fq, .int .i64 s.v, .bool s.b, .int .i64 s.po, .int .i64 s.sp, .slice YA yn yc, .int .i64 s.tn], .agg #[.int .i64 z.per, .bool z.b0, .bool z.b1, .bool z.b2, .bool z.b3, .bool z.b4, .bool z.b5, .slice GA gn gc, .int .i64 z.ld, .int .i64 z.amb, .bool z.k0, .bool z.k1, .bool z.k2, .bool z.k3, .bool z.k4, .bool z.k5, .bool z.de, .bool z.nb]] w fun e w' => e = .returned (.tuple #[.agg #[.int .i64 0, .int .i64 0, .int .i64 0, .bool false, .int .i64 0, .int .i64 0, .slice none 0 0, .int .i64 0], (errV 15)]) ∧ Below w.heap.size w w' := by
  have ok := pl_ok hc
  have k1 := fun (W : World) (h : Py W W.heap.size P X) => pckM P X W h
  simp only [hc, errV_zero] at k1
  have K1 := hide k1
  clear k1
  obtain rfl : yn = 3 := by omega
  have k2 := fun (W : World) (h : Sl W W.heap.size 3 GA (z.es.map I.Ed.row)) => I.chk_walk z.per z.b0 z.b1 z.b2 z.b3 z.b4 z.b5 GA gn gc z.es W h eg gm
  simp only [hk, I.errV_zero] at k2
  have K2 := hide k2
  have k3 := fun (W : World) (h : Sl W W.heap.size 3 GA (z.es.map I.Ed.row)) => (I.break_walk z.per z.b0 z.b1 z.b2 z.b3 z.b4 z.b5 z.k0 z.k1 z.k2 z.k3 z.k4 z.k5 GA gn gc z.es W h eg gm).mono fun _ _ q => grp3 q
  have hz : I.brk [z.k0, z.k1, z.k2, z.k3, z.k4, z.k5] z.es = zEs z := rfl
  simp only [hz] at k3
  have K3 := hide k3
  have hl := I.brk_length [z.k0, z.k1, z.k2, z.k3, z.k4, z.k5] z.es
  have hck := I.brk_chk [z.k0, z.k1, z.k2, z.k3, z.k4, z.k5] hk
  have hm : (zEs z).length ≤ 1000000 := by unfold zEs; omega
  rw [hz] at hck
  have k4 := fun (W : World) (A' : Option Addr) (n' c' : Nat) (h : Sl W W.heap.size 3 A' ((zEs z).map I.Ed.row)) (en : n' = (zEs z).length) => I.short_walk z.per (z.b0 && !z.k0) (z.b1 && !z.k1) (z.b2 && !z.k2) (z.b3 && !z.k3) (z.b4 && !z.k4) (z.b5 && !z.k5) A' n' c' (zEs z) W h en (by omega)
  simp only [hck, I.errV_zero] at k4
  have ho : [z.b0 && !z.k0, z.b1 && !z.k1, z.b2 && !z.k2, z.b3 && !z.k3, z.b4 && !z.k4, z.b5 && !z.k5] = zOn z := rfl
  simp only [ho, hs] at k4
  have K4 := hide k4
  clear k2 k3 k4 hl
  clear ok hc hk hs h3 ey eg gm hck hz hm ho
  have HB := Below.refl w.heap.size w
  obtain ⟨w1, eW1, sW1, rc, hb⟩ := box w #[.int .i64 P.m.r, .int .i64 P.m.m, .slice X.A1 X.n1 X.c1, .slice X.A2 X.n2 X.c2, .slice X.A3 X.n3 X.c3, .slice X.A4 X.n4 X.c4, .int .i64 P.m.p, .int .i64 P.m.s, .int .i64 P.m.f, .int .i64 P.l.num, .int .i64 P.l.den, .int .i64 P.l.sup, .int .i64 P.l.fed, .int .i64 P.l.ohm, .int .i64 P.l.bon, .int .i64 P.l.boff, .int .i64 P.l.bohm, .int .i64 P.g, .int .i64 P.d, .int .i64 P.y, .slice X.B1 X.m1 X.d1, .slice X.B2 X.m2 X.d2, .slice X.B3 X.m3 X.d3, .int .i64 P.wi, .int .i64 P.sw] 35 (g := w.heap.size) rfl HB (by have := HB.size; omega)
  have Qrc : Hid (w.heap.size ≤ w.heap.size) := Lib.hid (by have := HB.size; omega)
  replace HB := hb
  clear hb
  obtain ⟨w2, eW2, sW2, rs, hb⟩ := box w1 #[.int .i64 s.fd, .int .i64 s.fq, .int .i64 s.v, .bool s.b, .int .i64 s.po, .int .i64 s.sp, .slice YA 3 yc, .int .i64 s.tn] 47 (g := w.heap.size + 1) sW1 HB (by have := HB.size; omega)
  have Qrs : Hid (w.heap.size ≤ w.heap.size + 1 ∧ w.heap.size < w.heap.size + 1) := Lib.hid ⟨by have := HB.size; omega, by have := rc.lt; omega⟩
  replace rc := rc.al eW2
  replace HB := hb
  clear hb
  obtain ⟨w3, eW3, sW3, ri, hb⟩ := box w2 #[.int .i64 z.per, .bool z.b0, .bool z.b1, .bool z.b2, .bool z.b3, .bool z.b4, .bool z.b5, .slice GA gn gc, .int .i64 z.ld, .int .i64 z.amb, .bool z.k0, .bool z.k1, .bool z.k2, .bool z.k3, .bool z.k4, .bool z.k5, .bool z.de, .bool z.nb] 53 (g := w.heap.size + 1 + 1) sW2 HB (by have := HB.size; omega)
  have Qri : Hid (w.heap.size ≤ w.heap.size + 1 + 1 ∧ w.heap.size < w.heap.size + 1 + 1 ∧ w.heap.size + 1 < w.heap.size + 1 + 1) := Lib.hid ⟨by have := HB.size; omega, by have := rc.lt; omega, by have := rs.lt; omega⟩
  replace rc := rc.al eW3
  replace rs := rs.al eW3
  replace HB := hb
  clear hb
  obtain ⟨w4, eW4, sW4, gz, hb⟩ := box w3 #[.int .i64 0, .int .i64 0, .int .i64 0, .bool false, .int .i64 0, .int .i64 0, .slice none 0 0, .int .i64 0] 47 (g := w.heap.size + 1 + 1 + 1) sW3 HB (by have := HB.size; omega)
  have Qgz : Hid (w.heap.size ≤ w.heap.size + 1 + 1 + 1 ∧ w.heap.size < w.heap.size + 1 + 1 + 1 ∧ w.heap.size + 1 < w.heap.size + 1 + 1 + 1 ∧ w.heap.size + 1 + 1 < w.heap.size + 1 + 1 + 1) := Lib.hid ⟨by have := HB.size; omega, by have := rc.lt; omega, by have := rs.lt; omega, by have := ri.lt; omega⟩
  replace rc := rc.al eW4
  replace rs := rs.al eW4
  replace ri := ri.al eW4
  replace HB := hb
  clear hb
  go_enter Tryz.func14, Tryz.ntmps14
  go_wp2_with (first | (refine wpList_load_row rfl 35 _ rfl (w.heap.size) rfl _ _ _ _ rc Tryz.underlying35 rfl (by kernel_rfl) ?_))
  with_reducible refine ((unhide K1) _ ((L.below HB).more HB.size)).mono ?_
  rintro e w5 ⟨rfl, hb⟩
  replace rc := rc.below hb rc.lt
  replace rs := rs.below hb rs.lt
  replace ri := ri.below hb ri.lt
  replace gz := gz.below hb gz.lt
  replace HB := HB.trans (hb.mono HB.size)
  clear hb
  clear eW1 sW1 eW2 sW2 eW3 sW3 eW4 sW4
  have rsc6 := rs.cell 6
  have ric0 := ri.cell 0
  have ric1 := ri.cell 1
  have ric2 := ri.cell 2
  have ric3 := ri.cell 3
  have ric4 := ri.cell 4
  have ric5 := ri.cell 5
  have ric6 := ri.cell 6
  have ric7 := ri.cell 7
  go_wp2_with fail
  with_reducible refine ((unhide K2) _ ((SG.below HB).more HB.size)).mono ?_
  rintro e w6 ⟨rfl, hb⟩
  replace rc := rc.below hb rc.lt
  replace rs := rs.below hb rs.lt
  replace ri := ri.below hb ri.lt
  replace gz := gz.below hb gz.lt
  replace HB := HB.trans (hb.mono HB.size)
  clear hb
  clear rsc6 ric0 ric1 ric2 ric3 ric4 ric5 ric6 ric7
  have ric0 := ri.cell 0
  have ric1 := ri.cell 1
  have ric2 := ri.cell 2
  have ric3 := ri.cell 3
  have ric4 := ri.cell 4
  have ric5 := ri.cell 5
  have ric6 := ri.cell 6
  have ric7 := ri.cell 7
  have ric10 := ri.cell 10
  have ric11 := ri.cell 11
  have ric12 := ri.cell 12
  have ric13 := ri.cell 13
  have ric14 := ri.cell 14
  have ric15 := ri.cell 15
  go_wp2_with fail
  with_reducible refine ((unhide K3) _ ((SG.below HB).more HB.size)).mono ?_
  rintro e w7 ⟨⟨A', n', c', rfl, en, SB⟩, hb⟩
  replace rc := rc.below hb rc.lt
  replace rs := rs.below hb rs.lt
  replace ri := ri.below hb ri.lt
  replace gz := gz.below hb gz.lt
  replace HB := HB.trans (hb.mono HB.size)
  clear hb
  clear ric0 ric1 ric2 ric3 ric4 ric5 ric6 ric7 ric10 ric11 ric12 ric13 ric14 ric15
  have EN := Lib.hid en
  clear en
  have lrc := rc.lt
  have lrs := rs.lt
  have lri := ri.lt
  have lgz := gz.lt
  go_upto_region 10 with (fail)
  obtain ⟨w8, eW8, sW8, rb, hb⟩ := box w7 #[.int .i64 z.per, .bool (z.b0 && !z.k0), .bool (z.b1 && !z.k1), .bool (z.b2 && !z.k2), .bool (z.b3 && !z.k3), .bool (z.b4 && !z.k4), .bool (z.b5 && !z.k5), .slice A' n' c'] 51 (g := w7.heap.size) rfl HB (by have := HB.size; omega)
  have Qrb : Hid (w.heap.size ≤ w7.heap.size ∧ w.heap.size < w7.heap.size ∧ w.heap.size + 1 < w7.heap.size ∧ w.heap.size + 1 + 1 < w7.heap.size ∧ w.heap.size + 1 + 1 + 1 < w7.heap.size) := Lib.hid ⟨by have := HB.size; omega, by have := rc.lt; omega, by have := rs.lt; omega, by have := ri.lt; omega, by have := gz.lt; omega⟩
  replace rc := rc.al eW8
  replace rs := rs.al eW8
  replace ri := ri.al eW8
  replace gz := gz.al eW8
  replace HB := hb
  clear hb
  simp only [eW8]
  have rbc0 := rb.cell 0
  have rbc1 := rb.cell 1
  have rbc2 := rb.cell 2
  have rbc3 := rb.cell 3
  have rbc4 := rb.cell 4
  have rbc5 := rb.cell 5
  have rbc6 := rb.cell 6
  have rbc7 := rb.cell 7
  go_wp2_with fail
  with_reducible refine ((unhide K4) _ A' n' c' (eW8 ▸ (SB.alloc (Nat.le_refl _) _).more (by simp)) EN.out).mono ?_
  rintro e w9 ⟨rfl, hb⟩
  replace rc := rc.below hb rc.lt
  replace rs := rs.below hb rs.lt
  replace ri := ri.below hb ri.lt
  replace gz := gz.below hb gz.lt
  replace rb := rb.below hb rb.lt
  replace HB := HB.trans (hb.mono HB.size)
  clear hb
  clear lrc lrs lri lgz rbc0 rbc1 rbc2 rbc3 rbc4 rbc5 rbc6 rbc7 eW8 sW8
  have gzc0 := gz.cell 0
  have gzc1 := gz.cell 1
  have gzc2 := gz.cell 2
  have gzc3 := gz.cell 3
  have gzc4 := gz.cell 4
  have gzc5 := gz.cell 5
  have gzc6 := gz.cell 6
  have gzc7 := gz.cell 7
  have fr0 := gz.frozen 0
  have fr1 := gz.frozen 1
  have fr2 := gz.frozen 2
  have fr3 := gz.frozen 3
  have fr4 := gz.frozen 4
  have fr5 := gz.frozen 5
  have fr6 := gz.frozen 6
  have fr7 := gz.frozen 7
  go_wp2
  obtain ⟨wz, hw⟩ : ∃ W, ((((((((w9.setCell ⟨w.heap.size + 1 + 1 + 1, 0, none⟩ (.int .i64 0)).setCell ⟨w.heap.size + 1 + 1 + 1, 1, none⟩ (.int .i64 0)).setCell ⟨w.heap.size + 1 + 1 + 1, 2, none⟩ (.int .i64 0)).setCell ⟨w.heap.size + 1 + 1 + 1, 3, none⟩ (.bool false)).setCell ⟨w.heap.size + 1 + 1 + 1, 4, none⟩ (.int .i64 0)).setCell ⟨w.heap.size + 1 + 1 + 1, 5, none⟩ (.int .i64 0)).setCell ⟨w.heap.size + 1 + 1 + 1, 6, none⟩ (.slice none 0 0)).setCell ⟨w.heap.size + 1 + 1 + 1, 7, none⟩ (.int .i64 0)) = W := ⟨_, rfl⟩
  have gy : Blk wz (w.heap.size + 1 + 1 + 1) 47 #[.int .i64 0, .int .i64 0, .int .i64 0, .bool false, .int .i64 0, .int .i64 0, .slice none 0 0, .int .i64 0] := hw ▸ gz.fill8 (.int .i64 0) (.int .i64 0) (.int .i64 0) (.bool false) (.int .i64 0) (.int .i64 0) (.slice none 0 0) (.int .i64 0)
  have zy : wz.heap.size = w9.heap.size := by rw [← hw]; simp
  have hy : Below w.heap.size w wz := hw ▸ below_fill8 HB (by omega) (.int .i64 0) (.int .i64 0) (.int .i64 0) (.bool false) (.int .i64 0) (.int .i64 0) (.slice none 0 0) (.int .i64 0)
  simp only [hw]
  clear hw
  exact bodyPost_ret (ret_cell_tmp rfl rfl (load_ps gy)) rfl ⟨rfl, hy⟩
set_option maxRecDepth 100000 in
set_option maxHeartbeats 6400000 in
theorem pstepM_ok (P : Pc) (X : Pa) (s : Ps) (YA : Option Addr) (yn yc : Nat) (z : Pi) (GA : Option Addr) (gn gc : Nat) (w : World) (L : Py w w.heap.size P X) (SY : Sl w w.heap.size 1 YA (rows s.h)) (ey : yn = s.h.length) (SG : Sl w w.heap.size 3 GA (z.es.map I.Ed.row)) (eg : gn = z.es.length) (gm : gn ≤ 1000000) (hc : plCode P = 0) (h3 : s.h.length = 3) (hk : I.chk z.per z.es = 0) (hs : I.shrt z.per (zOn z) (zEs z) = false) :
    Calls Tryz.prog 14 #[.agg #[.int .i64 P.m.r, .int .i64 P.m.m, .slice X.A1 X.n1 X.c1, .slice X.A2 X.n2 X.c2, .slice X.A3 X.n3 X.c3, .slice X.A4 X.n4 X.c4, .int .i64 P.m.p, .int .i64 P.m.s, .int .i64 P.m.f, .int .i64 P.l.num, .int .i64 P.l.den, .int .i64 P.l.sup, .int .i64 P.l.fed, .int .i64 P.l.ohm, .int .i64 P.l.bon, .int .i64 P.l.boff, .int .i64 P.l.bohm, .int .i64 P.g, .int .i64 P.d, .int .i64 P.y, .slice X.B1 X.m1 X.d1, .slice X.B2 X.m2 X.d2, .slice X.B3 X.m3 X.d3, .int .i64 P.wi, .int .i64 P.sw], .agg #[.int .i64 s.fd, .int .i64 s.fq, .int .i64 s.v, .bool s.b, .int .i64 s.po, .int .i64 s.sp, .slice YA yn yc, .int .i64 s.tn], .agg #[.int .i64 z.per, .bool z.b0, .bool z.b1, .bool z.b2, .bool z.b3, .bool z.b4, .bool z.b5, .slice GA gn gc, .int .i64 z.ld, .int .i64 z.amb, .bool z.k0, .bool z.k1, .bool z.k2, .bool z.k3, .bool z.k4, .bool z.k5, .bool z.de, .bool z.nb]] w fun e w' => (∃ A c, e = .returned (.tuple #[.agg #[.int .i64 (pxS P s z).fd, .int .i64 (pxS P s z).fq, .int .i64 (pxS P s z).v, .bool (pxS P s z).b, .int .i64 (pxS P s z).po, .int .i64 (pxS P s z).sp, .slice A 3 c, .int .i64 (pxS P s z).tn], .nilIface]) ∧ Sl w' w'.heap.size 1 A (rows (pxS P s z).h) ∧ (∀ ad, A = some ad → w.heap.size ≤ ad.block)) ∧ Below w.heap.size w w' := by
  have ok := pl_ok hc
  have k1 := fun (W : World) (h : Py W W.heap.size P X) => pckM P X W h
  simp only [hc, errV_zero] at k1
  have K1 := hide k1
  clear k1
  obtain rfl : yn = 3 := by omega
  have k2 := fun (W : World) (h : Sl W W.heap.size 3 GA (z.es.map I.Ed.row)) => I.chk_walk z.per z.b0 z.b1 z.b2 z.b3 z.b4 z.b5 GA gn gc z.es W h eg gm
  simp only [hk, I.errV_zero] at k2
  have K2 := hide k2
  have k3 := fun (W : World) (h : Sl W W.heap.size 3 GA (z.es.map I.Ed.row)) => (I.break_walk z.per z.b0 z.b1 z.b2 z.b3 z.b4 z.b5 z.k0 z.k1 z.k2 z.k3 z.k4 z.k5 GA gn gc z.es W h eg gm).mono fun _ _ q => grp3 q
  have hz : I.brk [z.k0, z.k1, z.k2, z.k3, z.k4, z.k5] z.es = zEs z := rfl
  simp only [hz] at k3
  have K3 := hide k3
  have hl := I.brk_length [z.k0, z.k1, z.k2, z.k3, z.k4, z.k5] z.es
  have hck := I.brk_chk [z.k0, z.k1, z.k2, z.k3, z.k4, z.k5] hk
  have hm : (zEs z).length ≤ 1000000 := by unfold zEs; omega
  rw [hz] at hck
  have k4 := fun (W : World) (A' : Option Addr) (n' c' : Nat) (h : Sl W W.heap.size 3 A' ((zEs z).map I.Ed.row)) (en : n' = (zEs z).length) => I.short_walk z.per (z.b0 && !z.k0) (z.b1 && !z.k1) (z.b2 && !z.k2) (z.b3 && !z.k3) (z.b4 && !z.k4) (z.b5 && !z.k5) A' n' c' (zEs z) W h en (by omega)
  simp only [hck, I.errV_zero] at k4
  have ho : [z.b0 && !z.k0, z.b1 && !z.k1, z.b2 && !z.k2, z.b3 && !z.k3, z.b4 && !z.k4, z.b5 && !z.k5] = zOn z := rfl
  simp only [ho, hs] at k4
  have K4 := hide k4
  clear k2 k3 k4 hl
  have he : I.err z.per (zOn z) (zEs z) = 0 := (show InOk s z from ⟨h3, hk, hs⟩).e
  have e1 := L.h.e1
  have m3 : X.m1 = 3 := by rw [e1]; exact ok.n
  have T0 := angP_bd s.po
  have k5 := fun (W : World) => angleM s.po s.sp W
  have k6 : ∀ (W : World) (h : Py W W.heap.size P X), Calls Tryz.prog 40 #[.agg #[.int .i64 P.m.r, .int .i64 P.m.m, .slice X.A1 X.n1 X.c1, .slice X.A2 X.n2 X.c2, .slice X.A3 X.n3 X.c3, .slice X.A4 X.n4 X.c4, .int .i64 P.m.p, .int .i64 P.m.s, .int .i64 P.m.f], .agg #[.int .i64 s.fd, .int .i64 s.fq], .int .i64 (angP s.po)] W fun e w' => e = .returned (.tuple #[.agg #[.int .i64 (cuA P s), .int .i64 (cuB P s), .int .i64 (cuC P s)], .nilIface]) ∧ Below W.heap.size W w' := fun W h => gphaM P X s.fd s.fq (angP s.po) W h ok.m
  have k7 := fun (W : World) (A' : Option Addr) (n' c' : Nat) (hL : Py W W.heap.size P X) (h : Sl W W.heap.size 3 A' ((zEs z).map I.Ed.row)) (en : n' = (zEs z).length) => elecM P X s YA 3 yc z.per (z.b0 && !z.k0) (z.b1 && !z.k1) (z.b2 && !z.k2) (z.b3 && !z.k3) (z.b4 && !z.k4) (z.b5 && !z.k5) (zEs z) A' n' c' (angP s.po) (cuA P s) (cuB P s) (cuC P s) W hL ok.m h en (by omega) he
  have hMd : elD P.m s.fd s.fq s.tn s.v z.per (zOn z) (zEs z) (angP s.po) (cuA P s) (cuB P s) (cuC P s) = pxD P s z := rfl
  have hMq : elQ P.m s.fd s.fq s.tn s.v z.per (zOn z) (zEs z) (angP s.po) (cuA P s) (cuB P s) (cuC P s) = pxQ P s z := rfl
  have hMw : I.drawP z.per (zOn z) (zEs z) (cuA P s) (cuB P s) (cuC P s) = pxW P s z := rfl
  simp only [ho, hMd, hMq, hMw] at k7
  have k8 := fun (W : World) (h : Py W W.heap.size P X) => gtorM P X (pxD P s z) (pxQ P s z) W h ok.m
  have hMt : torq P.m (pxD P s z) (pxQ P s z) = pxT P s z := rfl
  simp only [hMt] at k8
  have f1 : (pxS P s z).fd = pxD P s z := rfl
  have f2 : (pxS P s z).fq = pxQ P s z := rfl
  have f3 : (pxS P s z).v = lkV P.l s.v s.b (pxW P s z) z.de z.nb := rfl
  have f4 : (pxS P s z).b = lkBr P.l s.v s.b := rfl
  have f5 : (pxS P s z).po = npV P.g P.d P.y s.po s.sp (pxT P s z) z.ld := rfl
  have f6 : (pxS P s z).sp = nvV P.g P.d P.y s.sp (pxT P s z) z.ld := rfl
  have f7 : (pxS P s z).h = stps P.h s.h [lossS (cuA P s) (cuB P s) (cuC P s) P.wi, 0, lossS (cuA P s) (cuB P s) (cuC P s) P.sw] z.amb 3 := rfl
  have f8 : (pxS P s z).tn = difA (angP (npV P.g P.d P.y s.po s.sp (pxT P s z) z.ld)) (angP s.po) := rfl
  simp only [f1, f2, f3, f4, f5, f6, f7, f8]
  clear f1 f2 f3 f4 f5 f6 f7 f8
  obtain ⟨M, hM⟩ : ∃ x, pxD P s z = x := ⟨_, rfl⟩
  obtain ⟨N, hN⟩ : ∃ x, pxQ P s z = x := ⟨_, rfl⟩
  obtain ⟨D, hD⟩ : ∃ x, pxW P s z = x := ⟨_, rfl⟩
  obtain ⟨TQ, hTQ⟩ : ∃ x, pxT P s z = x := ⟨_, rfl⟩
  simp only [hM, hN, hD] at k7
  simp only [hM, hN, hTQ] at k8
  simp only [hM, hN, hD, hTQ]
  have k9 := fun (W : World) => sstepM P.g P.d P.y s.po s.sp TQ z.ld W ok.s
  obtain ⟨PO, hPO⟩ : ∃ x, npV P.g P.d P.y s.po s.sp TQ z.ld = x := ⟨_, rfl⟩
  obtain ⟨SP, hSP⟩ : ∃ x, nvV P.g P.d P.y s.sp TQ z.ld = x := ⟨_, rfl⟩
  simp only [hPO, hSP] at k9 ⊢
  have T1 := angP_bd PO
  have k10 := fun (W : World) => angleM PO SP W
  have k11 := fun (W : World) => difM (angP PO) (angP s.po) W T1 T0
  have k12 := fun (W : World) => lstepM P.l s.v s.b D z.de z.nb W ok.l
  obtain ⟨LV, hLV⟩ : ∃ x, lkV P.l s.v s.b D z.de z.nb = x := ⟨_, rfl⟩
  obtain ⟨LB, hLB⟩ : ∃ x, lkBr P.l s.v s.b = x := ⟨_, rfl⟩
  obtain ⟨T2, hT2⟩ : ∃ x, angP PO = x := ⟨_, rfl⟩
  obtain ⟨T, hT⟩ : ∃ x, angP s.po = x := ⟨_, rfl⟩
  simp only [hT2, hT] at k11 ⊢
  simp only [hT2] at k10
  simp only [hT] at k5 k6 k7
  obtain ⟨TN, hTN⟩ : ∃ x, difA T2 T = x := ⟨_, rfl⟩
  simp only [hTN] at k11 ⊢
  simp only [hLV, hLB] at k12 ⊢
  have k13 := fun (W : World) => lossesM (cuA P s) (cuB P s) (cuC P s) P.wi W
  have k14 := fun (W : World) => lossesM (cuA P s) (cuB P s) (cuC P s) P.sw W
  obtain ⟨x, hx⟩ : ∃ x, lossS (cuA P s) (cuB P s) (cuC P s) P.wi = x := ⟨_, rfl⟩
  obtain ⟨y, hy⟩ : ∃ x, lossS (cuA P s) (cuB P s) (cuC P s) P.sw = x := ⟨_, rfl⟩
  simp only [hx] at k13 ⊢
  simp only [hy] at k14 ⊢
  obtain ⟨a, ha⟩ : ∃ x, cuA P s = x := ⟨_, rfl⟩
  obtain ⟨b, hb'⟩ : ∃ x, cuB P s = x := ⟨_, rfl⟩
  obtain ⟨c, hc'⟩ : ∃ x, cuC P s = x := ⟨_, rfl⟩
  simp only [ha, hb', hc'] at k6 k7 k13 k14
  have k15 := fun (W : World) (g : Nat) (hL : Py W W.heap.size P X) (SX : Sl W W.heap.size 1 YA (rows s.h)) (SP : Sl W W.heap.size 1 (some ⟨g, 0, none⟩) (rows [x, 0, y])) => (hstepM P.h X.B1 X.B2 X.B3 X.m1 X.m2 X.m3 X.d1 X.d2 X.d3 X.PA X.PC s.h [x, 0, y] YA (some ⟨g, 0, none⟩) 3 3 yc 3 z.amb W hL.h ok.h m3 SX SP h3.symm rfl rfl rfl).mono fun _ _ q => grp2 q
  have K5 := hide k5
  have K6 := hide k6
  have K7 := hide k7
  have K8 := hide k8
  have K9 := hide k9
  have K10 := hide k10
  have K11 := hide k11
  have K12 := hide k12
  have K13 := hide k13
  have K14 := hide k14
  have K15 := hide k15
  clear k5 k6 k7 k8 k9 k10 k11 k12 k13 k14 k15 hMd hMq hMw hMt hM hN hD hTQ hPO hSP hT2 hT hTN hLV hLB hx hy ha hb' hc' T0 T1 he e1 m3 ok hc hk hs h3 ey eg gm hck hz hm ho
  have HB := Below.refl w.heap.size w
  obtain ⟨w1, eW1, sW1, rc, hb⟩ := box w #[.int .i64 P.m.r, .int .i64 P.m.m, .slice X.A1 X.n1 X.c1, .slice X.A2 X.n2 X.c2, .slice X.A3 X.n3 X.c3, .slice X.A4 X.n4 X.c4, .int .i64 P.m.p, .int .i64 P.m.s, .int .i64 P.m.f, .int .i64 P.l.num, .int .i64 P.l.den, .int .i64 P.l.sup, .int .i64 P.l.fed, .int .i64 P.l.ohm, .int .i64 P.l.bon, .int .i64 P.l.boff, .int .i64 P.l.bohm, .int .i64 P.g, .int .i64 P.d, .int .i64 P.y, .slice X.B1 X.m1 X.d1, .slice X.B2 X.m2 X.d2, .slice X.B3 X.m3 X.d3, .int .i64 P.wi, .int .i64 P.sw] 35 (g := w.heap.size) rfl HB (by have := HB.size; omega)
  have Qrc : Hid (w.heap.size ≤ w.heap.size) := Lib.hid (by have := HB.size; omega)
  replace HB := hb
  clear hb
  obtain ⟨w2, eW2, sW2, rs, hb⟩ := box w1 #[.int .i64 s.fd, .int .i64 s.fq, .int .i64 s.v, .bool s.b, .int .i64 s.po, .int .i64 s.sp, .slice YA 3 yc, .int .i64 s.tn] 47 (g := w.heap.size + 1) sW1 HB (by have := HB.size; omega)
  have Qrs : Hid (w.heap.size ≤ w.heap.size + 1 ∧ w.heap.size < w.heap.size + 1) := Lib.hid ⟨by have := HB.size; omega, by have := rc.lt; omega⟩
  replace rc := rc.al eW2
  replace HB := hb
  clear hb
  obtain ⟨w3, eW3, sW3, ri, hb⟩ := box w2 #[.int .i64 z.per, .bool z.b0, .bool z.b1, .bool z.b2, .bool z.b3, .bool z.b4, .bool z.b5, .slice GA gn gc, .int .i64 z.ld, .int .i64 z.amb, .bool z.k0, .bool z.k1, .bool z.k2, .bool z.k3, .bool z.k4, .bool z.k5, .bool z.de, .bool z.nb] 53 (g := w.heap.size + 1 + 1) sW2 HB (by have := HB.size; omega)
  have Qri : Hid (w.heap.size ≤ w.heap.size + 1 + 1 ∧ w.heap.size < w.heap.size + 1 + 1 ∧ w.heap.size + 1 < w.heap.size + 1 + 1) := Lib.hid ⟨by have := HB.size; omega, by have := rc.lt; omega, by have := rs.lt; omega⟩
  replace rc := rc.al eW3
  replace rs := rs.al eW3
  replace HB := hb
  clear hb
  obtain ⟨w4, eW4, sW4, gz, hb⟩ := box w3 #[.int .i64 0, .int .i64 0, .int .i64 0, .bool false, .int .i64 0, .int .i64 0, .slice none 0 0, .int .i64 0] 47 (g := w.heap.size + 1 + 1 + 1) sW3 HB (by have := HB.size; omega)
  have Qgz : Hid (w.heap.size ≤ w.heap.size + 1 + 1 + 1 ∧ w.heap.size < w.heap.size + 1 + 1 + 1 ∧ w.heap.size + 1 < w.heap.size + 1 + 1 + 1 ∧ w.heap.size + 1 + 1 < w.heap.size + 1 + 1 + 1) := Lib.hid ⟨by have := HB.size; omega, by have := rc.lt; omega, by have := rs.lt; omega, by have := ri.lt; omega⟩
  replace rc := rc.al eW4
  replace rs := rs.al eW4
  replace ri := ri.al eW4
  replace HB := hb
  clear hb
  go_enter Tryz.func14, Tryz.ntmps14
  go_wp2_with (first | (refine wpList_load_row rfl 35 _ rfl (w.heap.size) rfl _ _ _ _ rc Tryz.underlying35 rfl (by kernel_rfl) ?_))
  with_reducible refine ((unhide K1) _ ((L.below HB).more HB.size)).mono ?_
  rintro e w5 ⟨rfl, hb⟩
  replace rc := rc.below hb rc.lt
  replace rs := rs.below hb rs.lt
  replace ri := ri.below hb ri.lt
  replace gz := gz.below hb gz.lt
  replace HB := HB.trans (hb.mono HB.size)
  clear hb
  clear eW1 sW1 eW2 sW2 eW3 sW3 eW4 sW4
  have rsc6 := rs.cell 6
  have ric0 := ri.cell 0
  have ric1 := ri.cell 1
  have ric2 := ri.cell 2
  have ric3 := ri.cell 3
  have ric4 := ri.cell 4
  have ric5 := ri.cell 5
  have ric6 := ri.cell 6
  have ric7 := ri.cell 7
  go_wp2_with fail
  with_reducible refine ((unhide K2) _ ((SG.below HB).more HB.size)).mono ?_
  rintro e w6 ⟨rfl, hb⟩
  replace rc := rc.below hb rc.lt
  replace rs := rs.below hb rs.lt
  replace ri := ri.below hb ri.lt
  replace gz := gz.below hb gz.lt
  replace HB := HB.trans (hb.mono HB.size)
  clear hb
  clear rsc6 ric0 ric1 ric2 ric3 ric4 ric5 ric6 ric7
  have ric0 := ri.cell 0
  have ric1 := ri.cell 1
  have ric2 := ri.cell 2
  have ric3 := ri.cell 3
  have ric4 := ri.cell 4
  have ric5 := ri.cell 5
  have ric6 := ri.cell 6
  have ric7 := ri.cell 7
  have ric10 := ri.cell 10
  have ric11 := ri.cell 11
  have ric12 := ri.cell 12
  have ric13 := ri.cell 13
  have ric14 := ri.cell 14
  have ric15 := ri.cell 15
  go_wp2_with fail
  with_reducible refine ((unhide K3) _ ((SG.below HB).more HB.size)).mono ?_
  rintro e w7 ⟨⟨A', n', c', rfl, en, SB⟩, hb⟩
  replace rc := rc.below hb rc.lt
  replace rs := rs.below hb rs.lt
  replace ri := ri.below hb ri.lt
  replace gz := gz.below hb gz.lt
  replace HB := HB.trans (hb.mono HB.size)
  clear hb
  clear ric0 ric1 ric2 ric3 ric4 ric5 ric6 ric7 ric10 ric11 ric12 ric13 ric14 ric15
  have EN := Lib.hid en
  clear en
  have HC := Below.refl w7.heap.size w7
  have lrc := rc.lt
  have lrs := rs.lt
  have lri := ri.lt
  have lgz := gz.lt
  go_upto_region 10 with (fail)
  obtain ⟨w8, eW8, sW8, rb, hb⟩ := box w7 #[.int .i64 z.per, .bool (z.b0 && !z.k0), .bool (z.b1 && !z.k1), .bool (z.b2 && !z.k2), .bool (z.b3 && !z.k3), .bool (z.b4 && !z.k4), .bool (z.b5 && !z.k5), .slice A' n' c'] 51 (g := w7.heap.size) rfl HB (by have := HB.size; omega)
  have Qrb : Hid (w.heap.size ≤ w7.heap.size ∧ w7.heap.size ≤ w7.heap.size ∧ w.heap.size < w7.heap.size ∧ w.heap.size + 1 < w7.heap.size ∧ w.heap.size + 1 + 1 < w7.heap.size ∧ w.heap.size + 1 + 1 + 1 < w7.heap.size) := Lib.hid ⟨by have := HB.size; omega, by have := HC.size; omega, by have := rc.lt; omega, by have := rs.lt; omega, by have := ri.lt; omega, by have := gz.lt; omega⟩
  replace rc := rc.al eW8
  replace rs := rs.al eW8
  replace ri := ri.al eW8
  replace gz := gz.al eW8
  replace HC : Below w7.heap.size w7 w8 := eW8 ▸ HC.alloc HC.size _
  replace HB := hb
  clear hb
  simp only [eW8]
  have rbc0 := rb.cell 0
  have rbc1 := rb.cell 1
  have rbc2 := rb.cell 2
  have rbc3 := rb.cell 3
  have rbc4 := rb.cell 4
  have rbc5 := rb.cell 5
  have rbc6 := rb.cell 6
  have rbc7 := rb.cell 7
  go_wp2_with fail
  with_reducible refine ((unhide K4) _ A' n' c' ((SB.below HC).more HC.size) EN.out).mono ?_
  rintro e w9 ⟨rfl, hb⟩
  replace rc := rc.below hb rc.lt
  replace rs := rs.below hb rs.lt
  replace ri := ri.below hb ri.lt
  replace gz := gz.below hb gz.lt
  replace rb := rb.below hb rb.lt
  replace HB := HB.trans (hb.mono HB.size)
  replace HC := HC.trans (hb.mono HC.size)
  clear hb
  clear lrc lrs lri lgz rbc0 rbc1 rbc2 rbc3 rbc4 rbc5 rbc6 rbc7 eW8 sW8
  have rsc4 := rs.cell 4
  have rsc5 := rs.cell 5
  go_wp2_with fail
  with_reducible refine ((unhide K5) _).mono ?_
  rintro e w10 ⟨rfl, hb⟩
  replace rc := rc.below hb rc.lt
  replace rs := rs.below hb rs.lt
  replace ri := ri.below hb ri.lt
  replace gz := gz.below hb gz.lt
  replace rb := rb.below hb rb.lt
  replace HB := HB.trans (hb.mono HB.size)
  replace HC := HC.trans (hb.mono HC.size)
  clear hb
  clear rsc4 rsc5
  have rcc0 := rc.cell 0
  have rcc1 := rc.cell 1
  have rcc2 := rc.cell 2
  have rcc3 := rc.cell 3
  have rcc4 := rc.cell 4
  have rcc5 := rc.cell 5
  have rcc6 := rc.cell 6
  have rcc7 := rc.cell 7
  have rcc8 := rc.cell 8
  have rsc0 := rs.cell 0
  have rsc1 := rs.cell 1
  go_wp2_with fail
  with_reducible refine ((unhide K6) _ ((L.below HB).more HB.size)).mono ?_
  rintro e w11 ⟨rfl, hb⟩
  replace rc := rc.below hb rc.lt
  replace rs := rs.below hb rs.lt
  replace ri := ri.below hb ri.lt
  replace gz := gz.below hb gz.lt
  replace rb := rb.below hb rb.lt
  replace HB := HB.trans (hb.mono HB.size)
  replace HC := HC.trans (hb.mono HC.size)
  clear hb
  clear rcc0 rcc1 rcc2 rcc3 rcc4 rcc5 rcc6 rcc7 rcc8 rsc0 rsc1
  have lrc := rc.lt
  have lrs := rs.lt
  have lri := ri.lt
  have lgz := gz.lt
  have lrb := rb.lt
  go_upto_region 19 with (fail)
  obtain ⟨w12, eW12, sW12, ra, hb⟩ := box w11 #[.int .i64 a, .int .i64 b, .int .i64 c] 67 (g := w11.heap.size) rfl HB (by have := HB.size; omega)
  have Qra : Hid (w.heap.size ≤ w11.heap.size ∧ w7.heap.size ≤ w11.heap.size ∧ w.heap.size < w11.heap.size ∧ w.heap.size + 1 < w11.heap.size ∧ w.heap.size + 1 + 1 < w11.heap.size ∧ w.heap.size + 1 + 1 + 1 < w11.heap.size ∧ w7.heap.size < w11.heap.size) := Lib.hid ⟨by have := HB.size; omega, by have := HC.size; omega, by have := rc.lt; omega, by have := rs.lt; omega, by have := ri.lt; omega, by have := gz.lt; omega, by have := rb.lt; omega⟩
  replace rc := rc.al eW12
  replace rs := rs.al eW12
  replace ri := ri.al eW12
  replace gz := gz.al eW12
  replace rb := rb.al eW12
  replace HC : Below w7.heap.size w7 w12 := eW12 ▸ HC.alloc HC.size _
  replace HB := hb
  clear hb
  simp only [eW12]
  obtain ⟨w13, eW13, sW13, rt, hb⟩ := box w12 #[.int .i64 0, .int .i64 0, .int .i64 0, .bool false, .int .i64 0, .int .i64 0, .slice none 0 0, .int .i64 0] 47 (g := w11.heap.size + 1) sW12 HB (by have := HB.size; omega)
  have Qrt : Hid (w.heap.size ≤ w11.heap.size + 1 ∧ w7.heap.size ≤ w11.heap.size + 1 ∧ w.heap.size < w11.heap.size + 1 ∧ w.heap.size + 1 < w11.heap.size + 1 ∧ w.heap.size + 1 + 1 < w11.heap.size + 1 ∧ w.heap.size + 1 + 1 + 1 < w11.heap.size + 1 ∧ w7.heap.size < w11.heap.size + 1 ∧ w11.heap.size < w11.heap.size + 1) := Lib.hid ⟨by have := HB.size; omega, by have := HC.size; omega, by have := rc.lt; omega, by have := rs.lt; omega, by have := ri.lt; omega, by have := gz.lt; omega, by have := rb.lt; omega, by have := ra.lt; omega⟩
  replace rc := rc.al eW13
  replace rs := rs.al eW13
  replace ri := ri.al eW13
  replace gz := gz.al eW13
  replace rb := rb.al eW13
  replace ra := ra.al eW13
  replace HC : Below w7.heap.size w7 w13 := eW13 ▸ HC.alloc HC.size _
  replace HB := hb
  clear hb
  simp only [eW13]
  have rsc0 := rs.cell 0
  have rsc1 := rs.cell 1
  have rsc2 := rs.cell 2
  have rsc3 := rs.cell 3
  have rsc4 := rs.cell 4
  have rsc5 := rs.cell 5
  have rsc6 := rs.cell 6
  have rsc7 := rs.cell 7
  have rbc0 := rb.cell 0
  have rbc1 := rb.cell 1
  have rbc2 := rb.cell 2
  have rbc3 := rb.cell 3
  have rbc4 := rb.cell 4
  have rbc5 := rb.cell 5
  have rbc6 := rb.cell 6
  have rbc7 := rb.cell 7
  have rac0 := ra.cell 0
  have rac1 := ra.cell 1
  have rac2 := ra.cell 2
  go_wp2_with (first | (refine wpList_load_row rfl 35 _ rfl (w.heap.size) rfl _ _ _ _ rc Tryz.underlying35 rfl (by kernel_rfl) ?_))
  with_reducible refine ((unhide K7) _ A' n' c' ((L.below HB).more HB.size) ((SB.below HC).more HC.size) EN.out).mono ?_
  rintro e w14 ⟨rfl, hb⟩
  replace rc := rc.below hb rc.lt
  replace rs := rs.below hb rs.lt
  replace ri := ri.below hb ri.lt
  replace gz := gz.below hb gz.lt
  replace rb := rb.below hb rb.lt
  replace ra := ra.below hb ra.lt
  replace rt := rt.below hb rt.lt
  replace HB := HB.trans (hb.mono HB.size)
  replace HC := HC.trans (hb.mono HC.size)
  clear hb
  clear lrc lrs lri lgz lrb rsc0 rsc1 rsc2 rsc3 rsc4 rsc5 rsc6 rsc7 rbc0 rbc1 rbc2 rbc3 rbc4 rbc5 rbc6 rbc7 rac0 rac1 rac2 eW12 sW12 eW13 sW13
  have rtc0 := rt.cell 0
  have rtc1 := rt.cell 1
  have rtc2 := rt.cell 2
  have rtc3 := rt.cell 3
  have rtc4 := rt.cell 4
  have rtc5 := rt.cell 5
  have rtc6 := rt.cell 6
  have rtc7 := rt.cell 7
  have rcc0 := rc.cell 0
  have rcc1 := rc.cell 1
  have rcc2 := rc.cell 2
  have rcc3 := rc.cell 3
  have rcc4 := rc.cell 4
  have rcc5 := rc.cell 5
  have rcc6 := rc.cell 6
  have rcc7 := rc.cell 7
  have rcc8 := rc.cell 8
  have fr0 := rt.frozen 0
  have fr1 := rt.frozen 1
  have qrc := Qrc.out
  have qrs := Qrs.out
  have qri := Qri.out
  have qgz := Qgz.out
  have qrb := Qrb.out
  have qra := Qra.out
  have qrt := Qrt.out
  have nrc : ¬ w.heap.size = w11.heap.size + 1 := by omega
  have mrc : ¬ w11.heap.size + 1 = w.heap.size := by omega
  have nrs : ¬ w.heap.size + 1 = w11.heap.size + 1 := by omega
  have mrs : ¬ w11.heap.size + 1 = w.heap.size + 1 := by omega
  have nri : ¬ w.heap.size + 1 + 1 = w11.heap.size + 1 := by omega
  have mri : ¬ w11.heap.size + 1 = w.heap.size + 1 + 1 := by omega
  have ngz : ¬ w.heap.size + 1 + 1 + 1 = w11.heap.size + 1 := by omega
  have mgz : ¬ w11.heap.size + 1 = w.heap.size + 1 + 1 + 1 := by omega
  have nrb : ¬ w7.heap.size = w11.heap.size + 1 := by omega
  have mrb : ¬ w11.heap.size + 1 = w7.heap.size := by omega
  have nra : ¬ w11.heap.size = w11.heap.size + 1 := by omega
  have mra : ¬ w11.heap.size + 1 = w11.heap.size := by omega
  clear qrc qrs qri qgz qrb qra qrt
  go_wp2_with fail
  have qrc := Qrc.out
  have qrs := Qrs.out
  have qri := Qri.out
  have qgz := Qgz.out
  have qrb := Qrb.out
  have qra := Qra.out
  have qrt := Qrt.out
  obtain ⟨w15, hw⟩ : ∃ W, ((w14.setCell ⟨w11.heap.size + 1, 0, none⟩ (.int .i64 M)).setCell ⟨w11.heap.size + 1, 1, none⟩ (.int .i64 N)) = W := ⟨_, rfl⟩
  replace rc : Blk w15 (w.heap.size) 35 #[.int .i64 P.m.r, .int .i64 P.m.m, .slice X.A1 X.n1 X.c1, .slice X.A2 X.n2 X.c2, .slice X.A3 X.n3 X.c3, .slice X.A4 X.n4 X.c4, .int .i64 P.m.p, .int .i64 P.m.s, .int .i64 P.m.f, .int .i64 P.l.num, .int .i64 P.l.den, .int .i64 P.l.sup, .int .i64 P.l.fed, .int .i64 P.l.ohm, .int .i64 P.l.bon, .int .i64 P.l.boff, .int .i64 P.l.bohm, .int .i64 P.g, .int .i64 P.d, .int .i64 P.y, .slice X.B1 X.m1 X.d1, .slice X.B2 X.m2 X.d2, .slice X.B3 X.m3 X.d3, .int .i64 P.wi, .int .i64 P.sw] := hw ▸ ((rc.far (by simp <;> omega) _).far (by simp <;> omega) _)
  replace rs : Blk w15 (w.heap.size + 1) 47 #[.int .i64 s.fd, .int .i64 s.fq, .int .i64 s.v, .bool s.b, .int .i64 s.po, .int .i64 s.sp, .slice YA 3 yc, .int .i64 s.tn] := hw ▸ ((rs.far (by simp <;> omega) _).far (by simp <;> omega) _)
  replace ri : Blk w15 (w.heap.size + 1 + 1) 53 #[.int .i64 z.per, .bool z.b0, .bool z.b1, .bool z.b2, .bool z.b3, .bool z.b4, .bool z.b5, .slice GA gn gc, .int .i64 z.ld, .int .i64 z.amb, .bool z.k0, .bool z.k1, .bool z.k2, .bool z.k3, .bool z.k4, .bool z.k5, .bool z.de, .bool z.nb] := hw ▸ ((ri.far (by simp <;> omega) _).far (by simp <;> omega) _)
  replace gz : Blk w15 (w.heap.size + 1 + 1 + 1) 47 #[.int .i64 0, .int .i64 0, .int .i64 0, .bool false, .int .i64 0, .int .i64 0, .slice none 0 0, .int .i64 0] := hw ▸ ((gz.far (by simp <;> omega) _).far (by simp <;> omega) _)
  replace rb : Blk w15 (w7.heap.size) 51 #[.int .i64 z.per, .bool (z.b0 && !z.k0), .bool (z.b1 && !z.k1), .bool (z.b2 && !z.k2), .bool (z.b3 && !z.k3), .bool (z.b4 && !z.k4), .bool (z.b5 && !z.k5), .slice A' n' c'] := hw ▸ ((rb.far (by simp <;> omega) _).far (by simp <;> omega) _)
  replace ra : Blk w15 (w11.heap.size) 67 #[.int .i64 a, .int .i64 b, .int .i64 c] := hw ▸ ((ra.far (by simp <;> omega) _).far (by simp <;> omega) _)
  replace rt : Blk w15 (w11.heap.size + 1) 47 #[.int .i64 M, .int .i64 N, .int .i64 0, .bool false, .int .i64 0, .int .i64 0, .slice none 0 0, .int .i64 0] := hw ▸ ((rt.set_ 0 _).set_ 1 _)
  replace HB : Below w.heap.size w w15 := hw ▸ ((HB.setCell (by simp <;> omega) _).setCell (by simp <;> omega) _)
  replace HC : Below w7.heap.size w7 w15 := hw ▸ ((HC.setCell (by simp <;> omega) _).setCell (by simp <;> omega) _)
  simp only [hw]
  clear hw
  clear rtc0 rtc1 rtc2 rtc3 rtc4 rtc5 rtc6 rtc7 rcc0 rcc1 rcc2 rcc3 rcc4 rcc5 rcc6 rcc7 rcc8 fr0 fr1 nrc mrc nrs mrs nri mri ngz mgz nrb mrb nra mra qrc qrs qri qgz qrb qra qrt
  with_reducible refine ((unhide K8) _ ((L.below HB).more HB.size)).mono ?_
  rintro e w16 ⟨rfl, hb⟩
  replace rc := rc.below hb rc.lt
  replace rs := rs.below hb rs.lt
  replace ri := ri.below hb ri.lt
  replace gz := gz.below hb gz.lt
  replace rb := rb.below hb rb.lt
  replace ra := ra.below hb ra.lt
  replace rt := rt.below hb rt.lt
  replace HB := HB.trans (hb.mono HB.size)
  replace HC := HC.trans (hb.mono HC.size)
  clear hb
  have rcc17 := rc.cell 17
  have rcc18 := rc.cell 18
  have rcc19 := rc.cell 19
  have rsc4 := rs.cell 4
  have rsc5 := rs.cell 5
  have ric8 := ri.cell 8
  go_wp2_with fail
  with_reducible refine ((unhide K9) _).mono ?_
  rintro e w17 ⟨rfl, hb⟩
  replace rc := rc.below hb rc.lt
  replace rs := rs.below hb rs.lt
  replace ri := ri.below hb ri.lt
  replace gz := gz.below hb gz.lt
  replace rb := rb.below hb rb.lt
  replace ra := ra.below hb ra.lt
  replace rt := rt.below hb rt.lt
  replace HB := HB.trans (hb.mono HB.size)
  replace HC := HC.trans (hb.mono HC.size)
  clear hb
  clear rcc17 rcc18 rcc19 rsc4 rsc5 ric8
  have rtc0 := rt.cell 0
  have rtc1 := rt.cell 1
  have rtc2 := rt.cell 2
  have rtc3 := rt.cell 3
  have rtc4 := rt.cell 4
  have rtc5 := rt.cell 5
  have rtc6 := rt.cell 6
  have rtc7 := rt.cell 7
  have fr4 := rt.frozen 4
  have fr5 := rt.frozen 5
  have qrc := Qrc.out
  have qrs := Qrs.out
  have qri := Qri.out
  have qgz := Qgz.out
  have qrb := Qrb.out
  have qra := Qra.out
  have qrt := Qrt.out
  have nrc : ¬ w.heap.size = w11.heap.size + 1 := by omega
  have mrc : ¬ w11.heap.size + 1 = w.heap.size := by omega
  have nrs : ¬ w.heap.size + 1 = w11.heap.size + 1 := by omega
  have mrs : ¬ w11.heap.size + 1 = w.heap.size + 1 := by omega
  have nri : ¬ w.heap.size + 1 + 1 = w11.heap.size + 1 := by omega
  have mri : ¬ w11.heap.size + 1 = w.heap.size + 1 + 1 := by omega
  have ngz : ¬ w.heap.size + 1 + 1 + 1 = w11.heap.size + 1 := by omega
  have mgz : ¬ w11.heap.size + 1 = w.heap.size + 1 + 1 + 1 := by omega
  have nrb : ¬ w7.heap.size = w11.heap.size + 1 := by omega
  have mrb : ¬ w11.heap.size + 1 = w7.heap.size := by omega
  have nra : ¬ w11.heap.size = w11.heap.size + 1 := by omega
  have mra : ¬ w11.heap.size + 1 = w11.heap.size := by omega
  clear qrc qrs qri qgz qrb qra qrt
  go_wp2_with fail
  have qrc := Qrc.out
  have qrs := Qrs.out
  have qri := Qri.out
  have qgz := Qgz.out
  have qrb := Qrb.out
  have qra := Qra.out
  have qrt := Qrt.out
  obtain ⟨w18, hw⟩ : ∃ W, ((w17.setCell ⟨w11.heap.size + 1, 4, none⟩ (.int .i64 PO)).setCell ⟨w11.heap.size + 1, 5, none⟩ (.int .i64 SP)) = W := ⟨_, rfl⟩
  replace rc : Blk w18 (w.heap.size) 35 #[.int .i64 P.m.r, .int .i64 P.m.m, .slice X.A1 X.n1 X.c1, .slice X.A2 X.n2 X.c2, .slice X.A3 X.n3 X.c3, .slice X.A4 X.n4 X.c4, .int .i64 P.m.p, .int .i64 P.m.s, .int .i64 P.m.f, .int .i64 P.l.num, .int .i64 P.l.den, .int .i64 P.l.sup, .int .i64 P.l.fed, .int .i64 P.l.ohm, .int .i64 P.l.bon, .int .i64 P.l.boff, .int .i64 P.l.bohm, .int .i64 P.g, .int .i64 P.d, .int .i64 P.y, .slice X.B1 X.m1 X.d1, .slice X.B2 X.m2 X.d2, .slice X.B3 X.m3 X.d3, .int .i64 P.wi, .int .i64 P.sw] := hw ▸ ((rc.far (by simp <;> omega) _).far (by simp <;> omega) _)
  replace rs : Blk w18 (w.heap.size + 1) 47 #[.int .i64 s.fd, .int .i64 s.fq, .int .i64 s.v, .bool s.b, .int .i64 s.po, .int .i64 s.sp, .slice YA 3 yc, .int .i64 s.tn] := hw ▸ ((rs.far (by simp <;> omega) _).far (by simp <;> omega) _)
  replace ri : Blk w18 (w.heap.size + 1 + 1) 53 #[.int .i64 z.per, .bool z.b0, .bool z.b1, .bool z.b2, .bool z.b3, .bool z.b4, .bool z.b5, .slice GA gn gc, .int .i64 z.ld, .int .i64 z.amb, .bool z.k0, .bool z.k1, .bool z.k2, .bool z.k3, .bool z.k4, .bool z.k5, .bool z.de, .bool z.nb] := hw ▸ ((ri.far (by simp <;> omega) _).far (by simp <;> omega) _)
  replace gz : Blk w18 (w.heap.size + 1 + 1 + 1) 47 #[.int .i64 0, .int .i64 0, .int .i64 0, .bool false, .int .i64 0, .int .i64 0, .slice none 0 0, .int .i64 0] := hw ▸ ((gz.far (by simp <;> omega) _).far (by simp <;> omega) _)
  replace rb : Blk w18 (w7.heap.size) 51 #[.int .i64 z.per, .bool (z.b0 && !z.k0), .bool (z.b1 && !z.k1), .bool (z.b2 && !z.k2), .bool (z.b3 && !z.k3), .bool (z.b4 && !z.k4), .bool (z.b5 && !z.k5), .slice A' n' c'] := hw ▸ ((rb.far (by simp <;> omega) _).far (by simp <;> omega) _)
  replace ra : Blk w18 (w11.heap.size) 67 #[.int .i64 a, .int .i64 b, .int .i64 c] := hw ▸ ((ra.far (by simp <;> omega) _).far (by simp <;> omega) _)
  replace rt : Blk w18 (w11.heap.size + 1) 47 #[.int .i64 M, .int .i64 N, .int .i64 0, .bool false, .int .i64 PO, .int .i64 SP, .slice none 0 0, .int .i64 0] := hw ▸ ((rt.set_ 4 _).set_ 5 _)
  replace HB : Below w.heap.size w w18 := hw ▸ ((HB.setCell (by simp <;> omega) _).setCell (by simp <;> omega) _)
  replace HC : Below w7.heap.size w7 w18 := hw ▸ ((HC.setCell (by simp <;> omega) _).setCell (by simp <;> omega) _)
  simp only [hw]
  clear hw
  clear rtc0 rtc1 rtc2 rtc3 rtc4 rtc5 rtc6 rtc7 fr4 fr5 nrc mrc nrs mrs nri mri ngz mgz nrb mrb nra mra qrc qrs qri qgz qrb qra qrt
  with_reducible refine ((unhide K10) _).mono ?_
  rintro e w19 ⟨rfl, hb⟩
  replace rc := rc.below hb rc.lt
  replace rs := rs.below hb rs.lt
  replace ri := ri.below hb ri.lt
  replace gz := gz.below hb gz.lt
  replace rb := rb.below hb rb.lt
  replace ra := ra.below hb ra.lt
  replace rt := rt.below hb rt.lt
  replace HB := HB.trans (hb.mono HB.size)
  replace HC := HC.trans (hb.mono HC.size)
  clear hb
  have rtc0 := rt.cell 0
  have rtc1 := rt.cell 1
  have rtc2 := rt.cell 2
  have rtc3 := rt.cell 3
  have rtc4 := rt.cell 4
  have rtc5 := rt.cell 5
  have rtc6 := rt.cell 6
  have rtc7 := rt.cell 7
  have rcc9 := rc.cell 9
  have rcc10 := rc.cell 10
  have rcc11 := rc.cell 11
  have rcc12 := rc.cell 12
  have rcc13 := rc.cell 13
  have rcc14 := rc.cell 14
  have rcc15 := rc.cell 15
  have rcc16 := rc.cell 16
  have rsc2 := rs.cell 2
  have rsc3 := rs.cell 3
  have ric16 := ri.cell 16
  have ric17 := ri.cell 17
  have fr7 := rt.frozen 7
  have qrc := Qrc.out
  have qrs := Qrs.out
  have qri := Qri.out
  have qgz := Qgz.out
  have qrb := Qrb.out
  have qra := Qra.out
  have qrt := Qrt.out
  have nrc : ¬ w.heap.size = w11.heap.size + 1 := by omega
  have mrc : ¬ w11.heap.size + 1 = w.heap.size := by omega
  have nrs : ¬ w.heap.size + 1 = w11.heap.size + 1 := by omega
  have mrs : ¬ w11.heap.size + 1 = w.heap.size + 1 := by omega
  have nri : ¬ w.heap.size + 1 + 1 = w11.heap.size + 1 := by omega
  have mri : ¬ w11.heap.size + 1 = w.heap.size + 1 + 1 := by omega
  have ngz : ¬ w.heap.size + 1 + 1 + 1 = w11.heap.size + 1 := by omega
  have mgz : ¬ w11.heap.size + 1 = w.heap.size + 1 + 1 + 1 := by omega
  have nrb : ¬ w7.heap.size = w11.heap.size + 1 := by omega
  have mrb : ¬ w11.heap.size + 1 = w7.heap.size := by omega
  have nra : ¬ w11.heap.size = w11.heap.size + 1 := by omega
  have mra : ¬ w11.heap.size + 1 = w11.heap.size := by omega
  clear qrc qrs qri qgz qrb qra qrt
  go_wp2_with (first | (first | (go_at_call 44; (with_reducible refine ((unhide K11) _).mono ?_); rintro e w' ⟨rfl, rfl⟩)))
  have qrc := Qrc.out
  have qrs := Qrs.out
  have qri := Qri.out
  have qgz := Qgz.out
  have qrb := Qrb.out
  have qra := Qra.out
  have qrt := Qrt.out
  obtain ⟨w20, hw⟩ : ∃ W, (w19.setCell ⟨w11.heap.size + 1, 7, none⟩ (.int .i64 TN)) = W := ⟨_, rfl⟩
  replace rc : Blk w20 (w.heap.size) 35 #[.int .i64 P.m.r, .int .i64 P.m.m, .slice X.A1 X.n1 X.c1, .slice X.A2 X.n2 X.c2, .slice X.A3 X.n3 X.c3, .slice X.A4 X.n4 X.c4, .int .i64 P.m.p, .int .i64 P.m.s, .int .i64 P.m.f, .int .i64 P.l.num, .int .i64 P.l.den, .int .i64 P.l.sup, .int .i64 P.l.fed, .int .i64 P.l.ohm, .int .i64 P.l.bon, .int .i64 P.l.boff, .int .i64 P.l.bohm, .int .i64 P.g, .int .i64 P.d, .int .i64 P.y, .slice X.B1 X.m1 X.d1, .slice X.B2 X.m2 X.d2, .slice X.B3 X.m3 X.d3, .int .i64 P.wi, .int .i64 P.sw] := hw ▸ (rc.far (by simp <;> omega) _)
  replace rs : Blk w20 (w.heap.size + 1) 47 #[.int .i64 s.fd, .int .i64 s.fq, .int .i64 s.v, .bool s.b, .int .i64 s.po, .int .i64 s.sp, .slice YA 3 yc, .int .i64 s.tn] := hw ▸ (rs.far (by simp <;> omega) _)
  replace ri : Blk w20 (w.heap.size + 1 + 1) 53 #[.int .i64 z.per, .bool z.b0, .bool z.b1, .bool z.b2, .bool z.b3, .bool z.b4, .bool z.b5, .slice GA gn gc, .int .i64 z.ld, .int .i64 z.amb, .bool z.k0, .bool z.k1, .bool z.k2, .bool z.k3, .bool z.k4, .bool z.k5, .bool z.de, .bool z.nb] := hw ▸ (ri.far (by simp <;> omega) _)
  replace gz : Blk w20 (w.heap.size + 1 + 1 + 1) 47 #[.int .i64 0, .int .i64 0, .int .i64 0, .bool false, .int .i64 0, .int .i64 0, .slice none 0 0, .int .i64 0] := hw ▸ (gz.far (by simp <;> omega) _)
  replace rb : Blk w20 (w7.heap.size) 51 #[.int .i64 z.per, .bool (z.b0 && !z.k0), .bool (z.b1 && !z.k1), .bool (z.b2 && !z.k2), .bool (z.b3 && !z.k3), .bool (z.b4 && !z.k4), .bool (z.b5 && !z.k5), .slice A' n' c'] := hw ▸ (rb.far (by simp <;> omega) _)
  replace ra : Blk w20 (w11.heap.size) 67 #[.int .i64 a, .int .i64 b, .int .i64 c] := hw ▸ (ra.far (by simp <;> omega) _)
  replace rt : Blk w20 (w11.heap.size + 1) 47 #[.int .i64 M, .int .i64 N, .int .i64 0, .bool false, .int .i64 PO, .int .i64 SP, .slice none 0 0, .int .i64 TN] := hw ▸ (rt.set_ 7 _)
  replace HB : Below w.heap.size w w20 := hw ▸ (HB.setCell (by simp <;> omega) _)
  replace HC : Below w7.heap.size w7 w20 := hw ▸ (HC.setCell (by simp <;> omega) _)
  simp only [hw]
  clear hw
  clear rtc0 rtc1 rtc2 rtc3 rtc4 rtc5 rtc6 rtc7 rcc9 rcc10 rcc11 rcc12 rcc13 rcc14 rcc15 rcc16 rsc2 rsc3 ric16 ric17 fr7 nrc mrc nrs mrs nri mri ngz mgz nrb mrb nra mra qrc qrs qri qgz qrb qra qrt
  with_reducible refine ((unhide K12) _).mono ?_
  rintro e w21 ⟨rfl, hb⟩
  replace rc := rc.below hb rc.lt
  replace rs := rs.below hb rs.lt
  replace ri := ri.below hb ri.lt
  replace gz := gz.below hb gz.lt
  replace rb := rb.below hb rb.lt
  replace ra := ra.below hb ra.lt
  replace rt := rt.below hb rt.lt
  replace HB := HB.trans (hb.mono HB.size)
  replace HC := HC.trans (hb.mono HC.size)
  clear hb
  have rtc0 := rt.cell 0
  have rtc1 := rt.cell 1
  have rtc2 := rt.cell 2
  have rtc3 := rt.cell 3
  have rtc4 := rt.cell 4
  have rtc5 := rt.cell 5
  have rtc6 := rt.cell 6
  have rtc7 := rt.cell 7
  have rac0 := ra.cell 0
  have rac1 := ra.cell 1
  have rac2 := ra.cell 2
  have rcc23 := rc.cell 23
  have rcc24 := rc.cell 24
  have fr2 := rt.frozen 2
  have fr3 := rt.frozen 3
  have qrc := Qrc.out
  have qrs := Qrs.out
  have qri := Qri.out
  have qgz := Qgz.out
  have qrb := Qrb.out
  have qra := Qra.out
  have qrt := Qrt.out
  have nrc : ¬ w.heap.size = w11.heap.size + 1 := by omega
  have mrc : ¬ w11.heap.size + 1 = w.heap.size := by omega
  have nrs : ¬ w.heap.size + 1 = w11.heap.size + 1 := by omega
  have mrs : ¬ w11.heap.size + 1 = w.heap.size + 1 := by omega
  have nri : ¬ w.heap.size + 1 + 1 = w11.heap.size + 1 := by omega
  have mri : ¬ w11.heap.size + 1 = w.heap.size + 1 + 1 := by omega
  have ngz : ¬ w.heap.size + 1 + 1 + 1 = w11.heap.size + 1 := by omega
  have mgz : ¬ w11.heap.size + 1 = w.heap.size + 1 + 1 + 1 := by omega
  have nrb : ¬ w7.heap.size = w11.heap.size + 1 := by omega
  have mrb : ¬ w11.heap.size + 1 = w7.heap.size := by omega
  have nra : ¬ w11.heap.size = w11.heap.size + 1 := by omega
  have mra : ¬ w11.heap.size + 1 = w11.heap.size := by omega
  clear qrc qrs qri qgz qrb qra qrt
  go_wp2_with fail
  have qrc := Qrc.out
  have qrs := Qrs.out
  have qri := Qri.out
  have qgz := Qgz.out
  have qrb := Qrb.out
  have qra := Qra.out
  have qrt := Qrt.out
  obtain ⟨w22, hw⟩ : ∃ W, ((w21.setCell ⟨w11.heap.size + 1, 2, none⟩ (.int .i64 LV)).setCell ⟨w11.heap.size + 1, 3, none⟩ (.bool LB)) = W := ⟨_, rfl⟩
  replace rc : Blk w22 (w.heap.size) 35 #[.int .i64 P.m.r, .int .i64 P.m.m, .slice X.A1 X.n1 X.c1, .slice X.A2 X.n2 X.c2, .slice X.A3 X.n3 X.c3, .slice X.A4 X.n4 X.c4, .int .i64 P.m.p, .int .i64 P.m.s, .int .i64 P.m.f, .int .i64 P.l.num, .int .i64 P.l.den, .int .i64 P.l.sup, .int .i64 P.l.fed, .int .i64 P.l.ohm, .int .i64 P.l.bon, .int .i64 P.l.boff, .int .i64 P.l.bohm, .int .i64 P.g, .int .i64 P.d, .int .i64 P.y, .slice X.B1 X.m1 X.d1, .slice X.B2 X.m2 X.d2, .slice X.B3 X.m3 X.d3, .int .i64 P.wi, .int .i64 P.sw] := hw ▸ ((rc.far (by simp <;> omega) _).far (by simp <;> omega) _)
  replace rs : Blk w22 (w.heap.size + 1) 47 #[.int .i64 s.fd, .int .i64 s.fq, .int .i64 s.v, .bool s.b, .int .i64 s.po, .int .i64 s.sp, .slice YA 3 yc, .int .i64 s.tn] := hw ▸ ((rs.far (by simp <;> omega) _).far (by simp <;> omega) _)
  replace ri : Blk w22 (w.heap.size + 1 + 1) 53 #[.int .i64 z.per, .bool z.b0, .bool z.b1, .bool z.b2, .bool z.b3, .bool z.b4, .bool z.b5, .slice GA gn gc, .int .i64 z.ld, .int .i64 z.amb, .bool z.k0, .bool z.k1, .bool z.k2, .bool z.k3, .bool z.k4, .bool z.k5, .bool z.de, .bool z.nb] := hw ▸ ((ri.far (by simp <;> omega) _).far (by simp <;> omega) _)
  replace gz : Blk w22 (w.heap.size + 1 + 1 + 1) 47 #[.int .i64 0, .int .i64 0, .int .i64 0, .bool false, .int .i64 0, .int .i64 0, .slice none 0 0, .int .i64 0] := hw ▸ ((gz.far (by simp <;> omega) _).far (by simp <;> omega) _)
  replace rb : Blk w22 (w7.heap.size) 51 #[.int .i64 z.per, .bool (z.b0 && !z.k0), .bool (z.b1 && !z.k1), .bool (z.b2 && !z.k2), .bool (z.b3 && !z.k3), .bool (z.b4 && !z.k4), .bool (z.b5 && !z.k5), .slice A' n' c'] := hw ▸ ((rb.far (by simp <;> omega) _).far (by simp <;> omega) _)
  replace ra : Blk w22 (w11.heap.size) 67 #[.int .i64 a, .int .i64 b, .int .i64 c] := hw ▸ ((ra.far (by simp <;> omega) _).far (by simp <;> omega) _)
  replace rt : Blk w22 (w11.heap.size + 1) 47 #[.int .i64 M, .int .i64 N, .int .i64 LV, .bool LB, .int .i64 PO, .int .i64 SP, .slice none 0 0, .int .i64 TN] := hw ▸ ((rt.set_ 2 _).set_ 3 _)
  replace HB : Below w.heap.size w w22 := hw ▸ ((HB.setCell (by simp <;> omega) _).setCell (by simp <;> omega) _)
  replace HC : Below w7.heap.size w7 w22 := hw ▸ ((HC.setCell (by simp <;> omega) _).setCell (by simp <;> omega) _)
  simp only [hw]
  clear hw
  clear rtc0 rtc1 rtc2 rtc3 rtc4 rtc5 rtc6 rtc7 rac0 rac1 rac2 rcc23 rcc24 fr2 fr3 nrc mrc nrs mrs nri mri ngz mgz nrb mrb nra mra qrc qrs qri qgz qrb qra qrt
  clear HC
  obtain ⟨hl, hel⟩ : ∃ l : List (Nat × TypeId × Array Value), [(w.heap.size, 35, #[.int .i64 P.m.r, .int .i64 P.m.m, .slice X.A1 X.n1 X.c1, .slice X.A2 X.n2 X.c2, .slice X.A3 X.n3 X.c3, .slice X.A4 X.n4 X.c4, .int .i64 P.m.p, .int .i64 P.m.s, .int .i64 P.m.f, .int .i64 P.l.num, .int .i64 P.l.den, .int .i64 P.l.sup, .int .i64 P.l.fed, .int .i64 P.l.ohm, .int .i64 P.l.bon, .int .i64 P.l.boff, .int .i64 P.l.bohm, .int .i64 P.g, .int .i64 P.d, .int .i64 P.y, .slice X.B1 X.m1 X.d1, .slice X.B2 X.m2 X.d2, .slice X.B3 X.m3 X.d3, .int .i64 P.wi, .int .i64 P.sw]), (w.heap.size + 1, 47, #[.int .i64 s.fd, .int .i64 s.fq, .int .i64 s.v, .bool s.b, .int .i64 s.po, .int .i64 s.sp, .slice YA 3 yc, .int .i64 s.tn]), (w.heap.size + 1 + 1, 53, #[.int .i64 z.per, .bool z.b0, .bool z.b1, .bool z.b2, .bool z.b3, .bool z.b4, .bool z.b5, .slice GA gn gc, .int .i64 z.ld, .int .i64 z.amb, .bool z.k0, .bool z.k1, .bool z.k2, .bool z.k3, .bool z.k4, .bool z.k5, .bool z.de, .bool z.nb]), (w.heap.size + 1 + 1 + 1, 47, #[.int .i64 0, .int .i64 0, .int .i64 0, .bool false, .int .i64 0, .int .i64 0, .slice none 0 0, .int .i64 0]), (w7.heap.size, 51, #[.int .i64 z.per, .bool (z.b0 && !z.k0), .bool (z.b1 && !z.k1), .bool (z.b2 && !z.k2), .bool (z.b3 && !z.k3), .bool (z.b4 && !z.k4), .bool (z.b5 && !z.k5), .slice A' n' c']), (w11.heap.size, 67, #[.int .i64 a, .int .i64 b, .int .i64 c]), (w11.heap.size + 1, 47, #[.int .i64 M, .int .i64 N, .int .i64 LV, .bool LB, .int .i64 PO, .int .i64 SP, .slice none 0 0, .int .i64 TN])] = l := ⟨_, rfl⟩
  have has : Hold w w22 hl := hel ▸ ((((((((Hold.nil HB).cons rt).cons ra).cons rb).cons gz).cons ri).cons rs).cons rc)
  have hsh : ∀ w', Hold w w' hl → Hold w w' hl ∧ w'.cell? ⟨w11.heap.size, 0, none⟩ = some (.int .i64 a) ∧ w'.cell? ⟨w11.heap.size, 1, none⟩ = some (.int .i64 b) ∧ w'.cell? ⟨w11.heap.size, 2, none⟩ = some (.int .i64 c) ∧ w'.cell? ⟨w.heap.size, 23, none⟩ = some (.int .i64 P.wi) ∧ w'.cell? ⟨w.heap.size, 24, none⟩ = some (.int .i64 P.sw) := fun w' h => ⟨h, (h.at_ 5 (by rw [← hel]; rfl)).cell 0, (h.at_ 5 (by rw [← hel]; rfl)).cell 1, (h.at_ 5 (by rw [← hel]; rfl)).cell 2, (h.at_ 0 (by rw [← hel]; rfl)).cell 23, (h.at_ 0 (by rw [← hel]; rfl)).cell 24⟩
  have hqrc : ∀ w', Hold w w' hl → Blk w' (w.heap.size) 35 #[.int .i64 P.m.r, .int .i64 P.m.m, .slice X.A1 X.n1 X.c1, .slice X.A2 X.n2 X.c2, .slice X.A3 X.n3 X.c3, .slice X.A4 X.n4 X.c4, .int .i64 P.m.p, .int .i64 P.m.s, .int .i64 P.m.f, .int .i64 P.l.num, .int .i64 P.l.den, .int .i64 P.l.sup, .int .i64 P.l.fed, .int .i64 P.l.ohm, .int .i64 P.l.bon, .int .i64 P.l.boff, .int .i64 P.l.bohm, .int .i64 P.g, .int .i64 P.d, .int .i64 P.y, .slice X.B1 X.m1 X.d1, .slice X.B2 X.m2 X.d2, .slice X.B3 X.m3 X.d3, .int .i64 P.wi, .int .i64 P.sw] := fun w' h => h.at_ 0 (by rw [← hel]; rfl)
  have HQrc := hide hqrc
  have hqrs : ∀ w', Hold w w' hl → Blk w' (w.heap.size + 1) 47 #[.int .i64 s.fd, .int .i64 s.fq, .int .i64 s.v, .bool s.b, .int .i64 s.po, .int .i64 s.sp, .slice YA 3 yc, .int .i64 s.tn] := fun w' h => h.at_ 1 (by rw [← hel]; rfl)
  have HQrs := hide hqrs
  have hqri : ∀ w', Hold w w' hl → Blk w' (w.heap.size + 1 + 1) 53 #[.int .i64 z.per, .bool z.b0, .bool z.b1, .bool z.b2, .bool z.b3, .bool z.b4, .bool z.b5, .slice GA gn gc, .int .i64 z.ld, .int .i64 z.amb, .bool z.k0, .bool z.k1, .bool z.k2, .bool z.k3, .bool z.k4, .bool z.k5, .bool z.de, .bool z.nb] := fun w' h => h.at_ 2 (by rw [← hel]; rfl)
  have HQri := hide hqri
  have hqgz : ∀ w', Hold w w' hl → Blk w' (w.heap.size + 1 + 1 + 1) 47 #[.int .i64 0, .int .i64 0, .int .i64 0, .bool false, .int .i64 0, .int .i64 0, .slice none 0 0, .int .i64 0] := fun w' h => h.at_ 3 (by rw [← hel]; rfl)
  have HQgz := hide hqgz
  have hqrb : ∀ w', Hold w w' hl → Blk w' (w7.heap.size) 51 #[.int .i64 z.per, .bool (z.b0 && !z.k0), .bool (z.b1 && !z.k1), .bool (z.b2 && !z.k2), .bool (z.b3 && !z.k3), .bool (z.b4 && !z.k4), .bool (z.b5 && !z.k5), .slice A' n' c'] := fun w' h => h.at_ 4 (by rw [← hel]; rfl)
  have HQrb := hide hqrb
  have hqra : ∀ w', Hold w w' hl → Blk w' (w11.heap.size) 67 #[.int .i64 a, .int .i64 b, .int .i64 c] := fun w' h => h.at_ 5 (by rw [← hel]; rfl)
  have HQra := hide hqra
  have hqrt : ∀ w', Hold w w' hl → Blk w' (w11.heap.size + 1) 47 #[.int .i64 M, .int .i64 N, .int .i64 LV, .bool LB, .int .i64 PO, .int .i64 SP, .slice none 0 0, .int .i64 TN] := fun w' h => h.at_ 6 (by rw [← hel]; rfl)
  have HQrt := hide hqrt
  have HSH := hide hsh
  clear hsh hel hqrc hqrs hqri hqgz hqrb hqra hqrt
  go_region_held3 (fun w' => Hold w w' hl ∧ w'.cell? ⟨w11.heap.size, 0, none⟩ = some (.int .i64 a) ∧ w'.cell? ⟨w11.heap.size, 1, none⟩ = some (.int .i64 b) ∧ w'.cell? ⟨w11.heap.size, 2, none⟩ = some (.int .i64 c) ∧ w'.cell? ⟨w.heap.size, 23, none⟩ = some (.int .i64 P.wi) ∧ w'.cell? ⟨w.heap.size, 24, none⟩ = some (.int .i64 P.sw))
    (first | (refine (unhide HSH) _ ?_; repeat (first | with_reducible exact has | with_reducible exact hasA | with_reducible exact hasB | with_reducible refine Hold.drew ?_ | with_reducible refine Hold.alloc ?_ _)))
    (first | (go_at_call 46; (with_reducible refine ((unhide K13) _).mono ?_); rintro e wA ⟨rfl, hbA⟩; have hasA := Hold.below hbA (Hold.one ‹Hold w _ hl ∧ _›)) | (go_at_call 46; (with_reducible refine ((unhide K14) _).mono ?_); rintro e wB ⟨rfl, hbB⟩; have hasB := Hold.below hbB (Hold.one ‹Hold w _ hl ∧ _›)))
  obtain ⟨w23, hw⟩ : ∃ W, wB = W := ⟨_, rfl⟩
  replace has := hw ▸ hasB
  replace rc := (unhide HQrc) _ has
  replace rs := (unhide HQrs) _ has
  replace ri := (unhide HQri) _ has
  replace gz := (unhide HQgz) _ has
  replace rb := (unhide HQrb) _ has
  replace ra := (unhide HQra) _ has
  replace rt := (unhide HQrt) _ has
  replace HB := has.b
  simp only [hw]
  clear hw has HQrc HQrs HQri HQgz HQrb HQra HQrt HSH
  obtain ⟨w24, eW24, sW24, rp, hb⟩ := box w23 #[.int .i64 x, .int .i64 0, .int .i64 y] 3 (g := w23.heap.size) rfl HB (by have := HB.size; omega)
  have Qrp : Hid (w.heap.size ≤ w23.heap.size ∧ w.heap.size < w23.heap.size ∧ w.heap.size + 1 < w23.heap.size ∧ w.heap.size + 1 + 1 < w23.heap.size ∧ w.heap.size + 1 + 1 + 1 < w23.heap.size ∧ w7.heap.size < w23.heap.size ∧ w11.heap.size < w23.heap.size ∧ w11.heap.size + 1 < w23.heap.size) := Lib.hid ⟨by have := HB.size; omega, by have := rc.lt; omega, by have := rs.lt; omega, by have := ri.lt; omega, by have := gz.lt; omega, by have := rb.lt; omega, by have := ra.lt; omega, by have := rt.lt; omega⟩
  replace rc := rc.al eW24
  replace rs := rs.al eW24
  replace ri := ri.al eW24
  replace gz := gz.al eW24
  replace rb := rb.al eW24
  replace ra := ra.al eW24
  replace rt := rt.al eW24
  replace HB := hb
  clear hb
  simp only [eW24]
  have rcc20 := rc.cell 20
  have rcc21 := rc.cell 21
  have rcc22 := rc.cell 22
  have rsc6 := rs.cell 6
  have ric9 := ri.cell 9
  go_wp2_with fail
  have HZ := gz.lt
  have HT := rt.lt
  with_reducible refine ((unhide K15) _ (w23.heap.size) ((L.below HB).more HB.size) ((SY.below HB).more HB.size) (sl_three rp rp.lt)).mono ?_
  rintro e w25 ⟨⟨A, u, rfl, SA, fA⟩, hb⟩
  replace rc := rc.below hb rc.lt
  replace rs := rs.below hb rs.lt
  replace ri := ri.below hb ri.lt
  replace gz := gz.below hb gz.lt
  replace rb := rb.below hb rb.lt
  replace ra := ra.below hb ra.lt
  replace rt := rt.below hb rt.lt
  replace rp := rp.below hb rp.lt
  replace HB := HB.trans (hb.mono HB.size)
  clear hb
  clear rcc20 rcc21 rcc22 rsc6 ric9 eW24 sW24
  have rtc0 := rt.cell 0
  have rtc1 := rt.cell 1
  have rtc2 := rt.cell 2
  have rtc3 := rt.cell 3
  have rtc4 := rt.cell 4
  have rtc5 := rt.cell 5
  have rtc6 := rt.cell 6
  have rtc7 := rt.cell 7
  have fr6 := rt.frozen 6
  have qrc := Qrc.out
  have qrs := Qrs.out
  have qri := Qri.out
  have qgz := Qgz.out
  have qrb := Qrb.out
  have qra := Qra.out
  have qrt := Qrt.out
  have qrp := Qrp.out
  have nrc : ¬ w.heap.size = w11.heap.size + 1 := by omega
  have mrc : ¬ w11.heap.size + 1 = w.heap.size := by omega
  have nrs : ¬ w.heap.size + 1 = w11.heap.size + 1 := by omega
  have mrs : ¬ w11.heap.size + 1 = w.heap.size + 1 := by omega
  have nri : ¬ w.heap.size + 1 + 1 = w11.heap.size + 1 := by omega
  have mri : ¬ w11.heap.size + 1 = w.heap.size + 1 + 1 := by omega
  have ngz : ¬ w.heap.size + 1 + 1 + 1 = w11.heap.size + 1 := by omega
  have mgz : ¬ w11.heap.size + 1 = w.heap.size + 1 + 1 + 1 := by omega
  have nrb : ¬ w7.heap.size = w11.heap.size + 1 := by omega
  have mrb : ¬ w11.heap.size + 1 = w7.heap.size := by omega
  have nra : ¬ w11.heap.size = w11.heap.size + 1 := by omega
  have mra : ¬ w11.heap.size + 1 = w11.heap.size := by omega
  have nrp : ¬ w23.heap.size = w11.heap.size + 1 := by omega
  have mrp : ¬ w11.heap.size + 1 = w23.heap.size := by omega
  clear qrc qrs qri qgz qrb qra qrt qrp
  go_upto_region 36 with (fail)
  have qrc := Qrc.out
  have qrs := Qrs.out
  have qri := Qri.out
  have qgz := Qgz.out
  have qrb := Qrb.out
  have qra := Qra.out
  have qrt := Qrt.out
  have qrp := Qrp.out
  obtain ⟨w26, hw⟩ : ∃ W, (w25.setCell ⟨w11.heap.size + 1, 6, none⟩ (.slice A 3 u)) = W := ⟨_, rfl⟩
  replace rc : Blk w26 (w.heap.size) 35 #[.int .i64 P.m.r, .int .i64 P.m.m, .slice X.A1 X.n1 X.c1, .slice X.A2 X.n2 X.c2, .slice X.A3 X.n3 X.c3, .slice X.A4 X.n4 X.c4, .int .i64 P.m.p, .int .i64 P.m.s, .int .i64 P.m.f, .int .i64 P.l.num, .int .i64 P.l.den, .int .i64 P.l.sup, .int .i64 P.l.fed, .int .i64 P.l.ohm, .int .i64 P.l.bon, .int .i64 P.l.boff, .int .i64 P.l.bohm, .int .i64 P.g, .int .i64 P.d, .int .i64 P.y, .slice X.B1 X.m1 X.d1, .slice X.B2 X.m2 X.d2, .slice X.B3 X.m3 X.d3, .int .i64 P.wi, .int .i64 P.sw] := hw ▸ (rc.far (by simp <;> omega) _)
  replace rs : Blk w26 (w.heap.size + 1) 47 #[.int .i64 s.fd, .int .i64 s.fq, .int .i64 s.v, .bool s.b, .int .i64 s.po, .int .i64 s.sp, .slice YA 3 yc, .int .i64 s.tn] := hw ▸ (rs.far (by simp <;> omega) _)
  replace ri : Blk w26 (w.heap.size + 1 + 1) 53 #[.int .i64 z.per, .bool z.b0, .bool z.b1, .bool z.b2, .bool z.b3, .bool z.b4, .bool z.b5, .slice GA gn gc, .int .i64 z.ld, .int .i64 z.amb, .bool z.k0, .bool z.k1, .bool z.k2, .bool z.k3, .bool z.k4, .bool z.k5, .bool z.de, .bool z.nb] := hw ▸ (ri.far (by simp <;> omega) _)
  replace gz : Blk w26 (w.heap.size + 1 + 1 + 1) 47 #[.int .i64 0, .int .i64 0, .int .i64 0, .bool false, .int .i64 0, .int .i64 0, .slice none 0 0, .int .i64 0] := hw ▸ (gz.far (by simp <;> omega) _)
  replace rb : Blk w26 (w7.heap.size) 51 #[.int .i64 z.per, .bool (z.b0 && !z.k0), .bool (z.b1 && !z.k1), .bool (z.b2 && !z.k2), .bool (z.b3 && !z.k3), .bool (z.b4 && !z.k4), .bool (z.b5 && !z.k5), .slice A' n' c'] := hw ▸ (rb.far (by simp <;> omega) _)
  replace ra : Blk w26 (w11.heap.size) 67 #[.int .i64 a, .int .i64 b, .int .i64 c] := hw ▸ (ra.far (by simp <;> omega) _)
  replace rt : Blk w26 (w11.heap.size + 1) 47 #[.int .i64 M, .int .i64 N, .int .i64 LV, .bool LB, .int .i64 PO, .int .i64 SP, .slice A 3 u, .int .i64 TN] := hw ▸ (rt.set_ 6 _)
  replace rp : Blk w26 (w23.heap.size) 3 #[.int .i64 x, .int .i64 0, .int .i64 y] := hw ▸ (rp.far (by simp <;> omega) _)
  replace HB : Below w.heap.size w w26 := hw ▸ (HB.setCell (by simp <;> omega) _)
  have SA2 : Sl w26 _ 1 A (rows (stps P.h s.h [x, 0, y] z.amb 3)) := hw ▸ SA.far1 (fun ad h => by have := fA ad h; have := HT; simp; omega) _
  have z2 : w26.heap.size = w25.heap.size := by rw [← hw]; simp
  simp only [hw]
  clear hw
  clear rtc0 rtc1 rtc2 rtc3 rtc4 rtc5 rtc6 rtc7 fr6 nrc mrc nrs mrs nri mri ngz mgz nrb mrb nra mra nrp mrp qrc qrs qri qgz qrb qra qrt qrp
  have rtc0 := rt.cell 0
  have rtc1 := rt.cell 1
  have rtc2 := rt.cell 2
  have rtc3 := rt.cell 3
  have rtc4 := rt.cell 4
  have rtc5 := rt.cell 5
  have rtc6 := rt.cell 6
  have rtc7 := rt.cell 7
  have qz := Qrt.out
  have qn : ¬ w.heap.size + 1 + 1 + 1 = w11.heap.size + 1 := by omega
  have qm : ¬ w11.heap.size + 1 = w.heap.size + 1 + 1 + 1 := by omega
  have gzc0 := gz.cell 0
  have gzc1 := gz.cell 1
  have gzc2 := gz.cell 2
  have gzc3 := gz.cell 3
  have gzc4 := gz.cell 4
  have gzc5 := gz.cell 5
  have gzc6 := gz.cell 6
  have gzc7 := gz.cell 7
  have fr0 := gz.frozen 0
  have fr1 := gz.frozen 1
  have fr2 := gz.frozen 2
  have fr3 := gz.frozen 3
  have fr4 := gz.frozen 4
  have fr5 := gz.frozen 5
  have fr6 := gz.frozen 6
  have fr7 := gz.frozen 7
  go_wp2
  obtain ⟨wz, hw⟩ : ∃ W, ((((((((w26.setCell ⟨w.heap.size + 1 + 1 + 1, 0, none⟩ (.int .i64 M)).setCell ⟨w.heap.size + 1 + 1 + 1, 1, none⟩ (.int .i64 N)).setCell ⟨w.heap.size + 1 + 1 + 1, 2, none⟩ (.int .i64 LV)).setCell ⟨w.heap.size + 1 + 1 + 1, 3, none⟩ (.bool LB)).setCell ⟨w.heap.size + 1 + 1 + 1, 4, none⟩ (.int .i64 PO)).setCell ⟨w.heap.size + 1 + 1 + 1, 5, none⟩ (.int .i64 SP)).setCell ⟨w.heap.size + 1 + 1 + 1, 6, none⟩ (.slice A 3 u)).setCell ⟨w.heap.size + 1 + 1 + 1, 7, none⟩ (.int .i64 TN)) = W := ⟨_, rfl⟩
  have gy : Blk wz (w.heap.size + 1 + 1 + 1) 47 #[.int .i64 M, .int .i64 N, .int .i64 LV, .bool LB, .int .i64 PO, .int .i64 SP, .slice A 3 u, .int .i64 TN] := hw ▸ gz.fill8 (.int .i64 M) (.int .i64 N) (.int .i64 LV) (.bool LB) (.int .i64 PO) (.int .i64 SP) (.slice A 3 u) (.int .i64 TN)
  have zy : wz.heap.size = w26.heap.size := by rw [← hw]; simp
  have hy : Below w.heap.size w wz := hw ▸ below_fill8 HB (by omega) (.int .i64 M) (.int .i64 N) (.int .i64 LV) (.bool LB) (.int .i64 PO) (.int .i64 SP) (.slice A 3 u) (.int .i64 TN)
  have sy : Sl wz _ 1 A (rows (stps P.h s.h [x, 0, y] z.amb 3)) := hw ▸ SA2.fill8 (g := w.heap.size + 1 + 1 + 1) (fun ad h => by have := fA ad h; have := HZ; omega) (.int .i64 M) (.int .i64 N) (.int .i64 LV) (.bool LB) (.int .i64 PO) (.int .i64 SP) (.slice A 3 u) (.int .i64 TN)
  simp only [hw]
  clear hw
  exact bodyPost_ret (ret_cell_tmp rfl rfl (load_ps gy)) rfl ⟨⟨A, u, rfl, sy.more (by omega), fun ad h => by have := fA ad h; have := HZ; omega⟩, hy⟩
end Go.Proofs.YtpfkiohknpeifaaGreat
