/- The walk of plant.Outputs. -/
import Derived.Test.YtpfkiohknpeifaaGreatPStart
import Derived.Deep.Cut
import Derived.Lib.MinMax
import Derived.Test.YtpfkiohknpeifaaGreatFirm
namespace Go.Proofs.YtpfkiohknpeifaaGreat
open Go.RowKit
section
variable {w : World} {g : Nat} {t : TypeId} {x0 x1 x2 x3 x4 x5 x6 x7 x8 : Value}
theorem Blk.fill9 (h : Blk w g t #[x0, x1, x2, x3, x4, x5, x6, x7, x8]) (y0 y1 y2 y3 y4 y5 y6 y7 y8 : Value) : Blk (((((((((w.setCell ⟨g, 0, none⟩ y0).setCell ⟨g, 1, none⟩ y1).setCell ⟨g, 2, none⟩ y2).setCell ⟨g, 3, none⟩ y3).setCell ⟨g, 4, none⟩ y4).setCell ⟨g, 5, none⟩ y5).setCell ⟨g, 6, none⟩ y6).setCell ⟨g, 7, none⟩ y7).setCell ⟨g, 8, none⟩ y8) g t #[y0, y1, y2, y3, y4, y5, y6, y7, y8] := by
  have h0 : Blk _ g t #[y0, x1, x2, x3, x4, x5, x6, x7, x8] := h.set_ 0 y0
  have h1 : Blk _ g t #[y0, y1, x2, x3, x4, x5, x6, x7, x8] := h0.set_ 1 y1
  have h2 : Blk _ g t #[y0, y1, y2, x3, x4, x5, x6, x7, x8] := h1.set_ 2 y2
  have h3 : Blk _ g t #[y0, y1, y2, y3, x4, x5, x6, x7, x8] := h2.set_ 3 y3
  have h4 : Blk _ g t #[y0, y1, y2, y3, y4, x5, x6, x7, x8] := h3.set_ 4 y4
  have h5 : Blk _ g t #[y0, y1, y2, y3, y4, y5, x6, x7, x8] := h4.set_ 5 y5
  have h6 : Blk _ g t #[y0, y1, y2, y3, y4, y5, y6, x7, x8] := h5.set_ 6 y6
  have h7 : Blk _ g t #[y0, y1, y2, y3, y4, y5, y6, y7, x8] := h6.set_ 7 y7
  exact h7.set_ 8 y8
theorem Sl.fill9 {B size : Nat} {A : Option Addr} {rs : List (List Value)} (h : Sl w B size A rs) {g : Nat} (hp : ∀ ad, A = some ad → ad.block ≠ g) (y0 y1 y2 y3 y4 y5 y6 y7 y8 : Value) :
    Sl (((((((((w.setCell ⟨g, 0, none⟩ y0).setCell ⟨g, 1, none⟩ y1).setCell ⟨g, 2, none⟩ y2).setCell ⟨g, 3, none⟩ y3).setCell ⟨g, 4, none⟩ y4).setCell ⟨g, 5, none⟩ y5).setCell ⟨g, 6, none⟩ y6).setCell ⟨g, 7, none⟩ y7).setCell ⟨g, 8, none⟩ y8) B size A rs :=
  (h.fill8 hp y0 y1 y2 y3 y4 y5 y6 y7).far1 hp y8
theorem below_fill9 {B : Nat} {w0 : World} (h : Below B w0 w) (hg : B ≤ g) (y0 y1 y2 y3 y4 y5 y6 y7 y8 : Value) : Below B w0 (((((((((w.setCell ⟨g, 0, none⟩ y0).setCell ⟨g, 1, none⟩ y1).setCell ⟨g, 2, none⟩ y2).setCell ⟨g, 3, none⟩ y3).setCell ⟨g, 4, none⟩ y4).setCell ⟨g, 5, none⟩ y5).setCell ⟨g, 6, none⟩ y6).setCell ⟨g, 7, none⟩ y7).setCell ⟨g, 8, none⟩ y8) :=
  (below_fill8 h hg y0 y1 y2 y3 y4 y5 y6 y7).setCell hg y8
end
theorem Hold.set {w0 w : World} {l : List (Nat × TypeId × Array Value)} (h : Hold w0 w l) {p : Addr} (hf : ∀ b ∈ l, b.1 ≠ p.block) (hB : w0.heap.size ≤ p.block) (u : Value) : Hold w0 (w.setCell p u) l := ⟨fun x hx => (h.all x hx).far (hf x hx) u, h.b.setCell hB u⟩
theorem load_po {w : World} {g : Nat} {t : TypeId} {a b c d e f x y z : Value} (h : Blk w g t #[a, b, c, d, e, f, x, y, z]) : (loadVar 69 ⟨g, 0, none⟩).run Tryz.prog w = .ok (.agg #[a, b, c, d, e, f, x, y, z]) w := by
  obtain ⟨k0, k1, k2, k3, k4, k5, k6, k7, k8⟩ := h.c9
  simp [go_sem, k0, k1, k2, k3, k4, k5, k6, k7, k8]
set_option maxRecDepth 100000 in
set_option maxHeartbeats 6400000 in
theorem poutM_1 (P : Pc) (X : Pa) (s : Ps) (YA : Option Addr) (yn yc : Nat) (w : World) (L : Py w w.heap.size P X) (hc : plCode P ≠ 0) :
    Calls Tryz.prog 17 #[.agg #[.int .i64 P.m.r, .int .i64 P.m.m, .slice X.A1 X.n1 X.c1, .slice X.A2 X.n2 X.c2, .slice X.A3 X.n3 X.c3, .slice X.A4 X.n4 X.c4, .int .i64 P.m.p, .int .i64 P.m.s, .int .i64 P.m.f, .int .i64 P.l.num, .int .i64 P.l.den, .int .i64 P.l.sup, .int .i64 P.l.fed, .int .i64 P.l.ohm, .int .i64 P.l.bon, .int .i64 P.l.boff, .int .i64 P.l.bohm, .int .i64 P.g, .int .i64 P.d, .int .i64 P.y, .slice X.B1 X.m1 X.d1, .slice X.B2 X.m2 X.d2, .slice X.B3 X.m3 X.d3, .int .i64 P.wi, .int .i64 P.sw], .agg #[.int .i64 s.fd, .int .i64 s.fq, .int .i64 s.v, .bool s.b, .int .i64 s.po, .int .i64 s.sp, .slice YA yn yc, .int .i64 s.tn]] w fun e w' => e = .returned (.tuple #[.agg #[.int .i64 0, .int .i64 0, .int .i64 0, .int .i64 0, .int .i64 0, .int .i64 0, .int .i64 0, .int .i64 0, .slice none 0 0], (errV (plCode P))]) ∧ Below w.heap.size w w' := by
  have k1 := fun (W : World) (h : Py W W.heap.size P X) => pckM P X W h
  simp only [errV_ne hc] at k1
  rw [errV_ne hc]
  have K1 := hide k1
  clear k1 hc
  have HB := Below.refl w.heap.size w
  obtain ⟨w1, eW1, sW1, rc, hb⟩ := box w #[.int .i64 P.m.r, .int .i64 P.m.m, .slice X.A1 X.n1 X.c1, .slice X.A2 X.n2 X.c2, .slice X.A3 X.n3 X.c3, .slice X.A4 X.n4 X.c4, .int .i64 P.m.p, .int .i64 P.m.s, .int .i64 P.m.f, .int .i64 P.l.num, .int .i64 P.l.den, .int .i64 P.l.sup, .int .i64 P.l.fed, .int .i64 P.l.ohm, .int .i64 P.l.bon, .int .i64 P.l.boff, .int .i64 P.l.bohm, .int .i64 P.g, .int .i64 P.d, .int .i64 P.y, .slice X.B1 X.m1 X.d1, .slice X.B2 X.m2 X.d2, .slice X.B3 X.m3 X.d3, .int .i64 P.wi, .int .i64 P.sw] 35 (g := w.heap.size) rfl HB (by have := HB.size; omega)
  have Qrc : Hid (w.heap.size ≤ w.heap.size) := Lib.hid (by have := HB.size; omega)
  replace HB := hb
  clear hb
  obtain ⟨w2, eW2, sW2, rs, hb⟩ := box w1 #[.int .i64 s.fd, .int .i64 s.fq, .int .i64 s.v, .bool s.b, .int .i64 s.po, .int .i64 s.sp, .slice YA yn yc, .int .i64 s.tn] 47 (g := w.heap.size + 1) sW1 HB (by have := HB.size; omega)
  have Qrs : Hid (w.heap.size ≤ w.heap.size + 1 ∧ w.heap.size < w.heap.size + 1) := Lib.hid ⟨by have := HB.size; omega, by have := rc.lt; omega⟩
  replace rc := rc.al eW2
  replace HB := hb
  clear hb
  obtain ⟨w3, eW3, sW3, gz, hb⟩ := box w2 #[.int .i64 0, .int .i64 0, .int .i64 0, .int .i64 0, .int .i64 0, .int .i64 0, .int .i64 0, .int .i64 0, .slice none 0 0] 69 (g := w.heap.size + 1 + 1) sW2 HB (by have := HB.size; omega)
  have Qgz : Hid (w.heap.size ≤ w.heap.size + 1 + 1 ∧ w.heap.size < w.heap.size + 1 + 1 ∧ w.heap.size + 1 < w.heap.size + 1 + 1) := Lib.hid ⟨by have := HB.size; omega, by have := rc.lt; omega, by have := rs.lt; omega⟩
  replace rc := rc.al eW3
  replace rs := rs.al eW3
  replace HB := hb
  clear hb
  go_enter Tryz.func17, Tryz.ntmps17
  go_wp2_with (first | (refine wpList_load_row rfl 35 _ rfl (w.heap.size) rfl _ _ _ _ rc Tryz.underlying35 rfl (by kernel_rfl) ?_))
  with_reducible refine ((unhide K1) _ ((L.below HB).more HB.size)).mono ?_
  rintro e w4 ⟨rfl, hb⟩
  replace rc := rc.below hb rc.lt
  replace rs := rs.below hb rs.lt
  replace gz := gz.below hb gz.lt
  replace HB := HB.trans (hb.mono HB.size)
  clear hb
  clear eW1 sW1 eW2 sW2 eW3 sW3
  have rsc6 := rs.cell 6
  have gzc0 := gz.cell 0
  have gzc1 := gz.cell 1
  have gzc2 := gz.cell 2
  have gzc3 := gz.cell 3
  have gzc4 := gz.cell 4
  have gzc5 := gz.cell 5
  have gzc6 := gz.cell 6
  have gzc7 := gz.cell 7
  have gzc8 := gz.cell 8
  have fr0 := gz.frozen 0
  have fr1 := gz.frozen 1
  have fr2 := gz.frozen 2
  have fr3 := gz.frozen 3
  have fr4 := gz.frozen 4
  have fr5 := gz.frozen 5
  have fr6 := gz.frozen 6
  have fr7 := gz.frozen 7
  have fr8 := gz.frozen 8
  go_wp2
  obtain ⟨wz, hw⟩ : ∃ W, (((((((((w4.setCell ⟨w.heap.size + 1 + 1, 0, none⟩ (.int .i64 0)).setCell ⟨w.heap.size + 1 + 1, 1, none⟩ (.int .i64 0)).setCell ⟨w.heap.size + 1 + 1, 2, none⟩ (.int .i64 0)).setCell ⟨w.heap.size + 1 + 1, 3, none⟩ (.int .i64 0)).setCell ⟨w.heap.size + 1 + 1, 4, none⟩ (.int .i64 0)).setCell ⟨w.heap.size + 1 + 1, 5, none⟩ (.int .i64 0)).setCell ⟨w.heap.size + 1 + 1, 6, none⟩ (.int .i64 0)).setCell ⟨w.heap.size + 1 + 1, 7, none⟩ (.int .i64 0)).setCell ⟨w.heap.size + 1 + 1, 8, none⟩ (.slice none 0 0)) = W := ⟨_, rfl⟩
  have gy : Blk wz (w.heap.size + 1 + 1) 69 #[.int .i64 0, .int .i64 0, .int .i64 0, .int .i64 0, .int .i64 0, .int .i64 0, .int .i64 0, .int .i64 0, .slice none 0 0] := hw ▸ gz.fill9 (.int .i64 0) (.int .i64 0) (.int .i64 0) (.int .i64 0) (.int .i64 0) (.int .i64 0) (.int .i64 0) (.int .i64 0) (.slice none 0 0)
  have zy : wz.heap.size = w4.heap.size := by rw [← hw]; simp
  have hy : Below w.heap.size w wz := hw ▸ below_fill9 HB (by omega) (.int .i64 0) (.int .i64 0) (.int .i64 0) (.int .i64 0) (.int .i64 0) (.int .i64 0) (.int .i64 0) (.int .i64 0) (.slice none 0 0)
  simp only [hw]
  clear hw
  exact bodyPost_ret (ret_cell_tmp rfl rfl (load_po gy)) rfl ⟨rfl, hy⟩
set_option maxRecDepth 100000 in
set_option maxHeartbeats 6400000 in
theorem poutM_2 (P : Pc) (X : Pa) (s : Ps) (YA : Option Addr) (yn yc : Nat) (w : World) (L : Py w w.heap.size P X) (ey : yn = s.h.length) (hc : plCode P = 0) (h3 : s.h.length ≠ 3) :
    Calls Tryz.prog 17 #[.agg #[.int .i64 P.m.r, .int .i64 P.m.m, .slice X.A1 X.n1 X.c1, .slice X.A2 X.n2 X.c2, .slice X.A3 X.n3 X.c3, .slice X.A4 X.n4 X.c4, .int .i64 P.m.p, .int .i64 P.m.s, .int .i64 P.m.f, .int .i64 P.l.num, .int .i64 P.l.den, .int .i64 P.l.sup, .int .i64 P.l.fed, .int .i64 P.l.ohm, .int .i64 P.l.bon, .int .i64 P.l.boff, .int .i64 P.l.bohm, .int .i64 P.g, .int .i64 P.d, .int .i64 P.y, .slice X.B1 X.m1 X.d1, .slice X.B2 X.m2 X.d2, .slice X.B3 X.m3 X.d3, .int .i64 P.wi, .int .i64 P.sw], .agg #[.int .i64 s.fd, .int .i64 s.fq, .int .i64 s.v, .bool s.b, .int .i64 s.po, .int .i64 s.sp, .slice YA yn yc, .int .i64 s.tn]] w fun e w' => e = .returned (.tuple #[.agg #[.int .i64 0, .int .i64 0, .int .i64 0, .int .i64 0, .int .i64 0, .int .i64 0, .int .i64 0, .int .i64 0, .slice none 0 0], (errV 11)]) ∧ Below w.heap.size w w' := by
  have k1 := fun (W : World) (h : Py W W.heap.size P X) => pckM P X W h
  simp only [hc, errV_zero] at k1
  have K1 := hide k1
  have h3i : ¬ yn = 3 := by omega
  have h3j : ¬ (yn : Int) = 3 := by omega
  clear k1 hc h3 ey
  have HB := Below.refl w.heap.size w
  obtain ⟨w1, eW1, sW1, rc, hb⟩ := box w #[.int .i64 P.m.r, .int .i64 P.m.m, .slice X.A1 X.n1 X.c1, .slice X.A2 X.n2 X.c2, .slice X.A3 X.n3 X.c3, .slice X.A4 X.n4 X.c4, .int .i64 P.m.p, .int .i64 P.m.s, .int .i64 P.m.f, .int .i64 P.l.num, .int .i64 P.l.den, .int .i64 P.l.sup, .int .i64 P.l.fed, .int .i64 P.l.ohm, .int .i64 P.l.bon, .int .i64 P.l.boff, .int .i64 P.l.bohm, .int .i64 P.g, .int .i64 P.d, .int .i64 P.y, .slice X.B1 X.m1 X.d1, .slice X.B2 X.m2 X.d2, .slice X.B3 X.m3 X.d3, .int .i64 P.wi, .int .i64 P.sw] 35 (g := w.heap.size) rfl HB (by have := HB.size; omega)
  have Qrc : Hid (w.heap.size ≤ w.heap.size) := Lib.hid (by have := HB.size; omega)
  replace HB := hb
  clear hb
  obtain ⟨w2, eW2, sW2, rs, hb⟩ := box w1 #[.int .i64 s.fd, .int .i64 s.fq, .int .i64 s.v, .bool s.b, .int .i64 s.po, .int .i64 s.sp, .slice YA yn yc, .int .i64 s.tn] 47 (g := w.heap.size + 1) sW1 HB (by have := HB.size; omega)
  have Qrs : Hid (w.heap.size ≤ w.heap.size + 1 ∧ w.heap.size < w.heap.size + 1) := Lib.hid ⟨by have := HB.size; omega, by have := rc.lt; omega⟩
  replace rc := rc.al eW2
  replace HB := hb
  clear hb
  obtain ⟨w3, eW3, sW3, gz, hb⟩ := box w2 #[.int .i64 0, .int .i64 0, .int .i64 0, .int .i64 0, .int .i64 0, .int .i64 0, .int .i64 0, .int .i64 0, .slice none 0 0] 69 (g := w.heap.size + 1 + 1) sW2 HB (by have := HB.size; omega)
  have Qgz : Hid (w.heap.size ≤ w.heap.size + 1 + 1 ∧ w.heap.size < w.heap.size + 1 + 1 ∧ w.heap.size + 1 < w.heap.size + 1 + 1) := Lib.hid ⟨by have := HB.size; omega, by have := rc.lt; omega, by have := rs.lt; omega⟩
  replace rc := rc.al eW3
  replace rs := rs.al eW3
  replace HB := hb
  clear hb
  go_enter Tryz.func17, Tryz.ntmps17
  go_wp2_with (first | (refine wpList_load_row rfl 35 _ rfl (w.heap.size) rfl _ _ _ _ rc Tryz.underlying35 rfl (by kernel_rfl) ?_))
  with_reducible refine ((unhide K1) _ ((L.below HB).more HB.size)).mono ?_
  rintro e w4 ⟨rfl, hb⟩
  replace rc := rc.below hb rc.lt
  replace rs := rs.below hb rs.lt
  replace gz := gz.below hb gz.lt
  replace HB := HB.trans (hb.mono HB.size)
  clear hb
  clear eW1 sW1 eW2 sW2 eW3 sW3
  have rsc6 := rs.cell 6
  have gzc0 := gz.cell 0
  have gzc1 := gz.cell 1
  have gzc2 := gz.cell 2
  have gzc3 := gz.cell 3
  have gzc4 := gz.cell 4
  have gzc5 := gz.cell 5
  have gzc6 := gz.cell 6
  have gzc7 := gz.cell 7
  have gzc8 := gz.cell 8
  have fr0 := gz.frozen 0
  have fr1 := gz.frozen 1
  have fr2 := gz.frozen 2
  have fr3 := gz.frozen 3
  have fr4 := gz.frozen 4
  have fr5 := gz.frozen 5
  have fr6 := gz.frozen 6
  have fr7 := gz.frozen 7
  have fr8 := gz.frozen 8
  go_wp2
  obtain ⟨wz, hw⟩ : ∃ W, (((((((((w4.setCell ⟨w.heap.size + 1 + 1, 0, none⟩ (.int .i64 0)).setCell ⟨w.heap.size + 1 + 1, 1, none⟩ (.int .i64 0)).setCell ⟨w.heap.size + 1 + 1, 2, none⟩ (.int .i64 0)).setCell ⟨w.heap.size + 1 + 1, 3, none⟩ (.int .i64 0)).setCell ⟨w.heap.size + 1 + 1, 4, none⟩ (.int .i64 0)).setCell ⟨w.heap.size + 1 + 1, 5, none⟩ (.int .i64 0)).setCell ⟨w.heap.size + 1 + 1, 6, none⟩ (.int .i64 0)).setCell ⟨w.heap.size + 1 + 1, 7, none⟩ (.int .i64 0)).setCell ⟨w.heap.size + 1 + 1, 8, none⟩ (.slice none 0 0)) = W := ⟨_, rfl⟩
  have gy : Blk wz (w.heap.size + 1 + 1) 69 #[.int .i64 0, .int .i64 0, .int .i64 0, .int .i64 0, .int .i64 0, .int .i64 0, .int .i64 0, .int .i64 0, .slice none 0 0] := hw ▸ gz.fill9 (.int .i64 0) (.int .i64 0) (.int .i64 0) (.int .i64 0) (.int .i64 0) (.int .i64 0) (.int .i64 0) (.int .i64 0) (.slice none 0 0)
  have zy : wz.heap.size = w4.heap.size := by rw [← hw]; simp
  have hy : Below w.heap.size w wz := hw ▸ below_fill9 HB (by omega) (.int .i64 0) (.int .i64 0) (.int .i64 0) (.int .i64 0) (.int .i64 0) (.int .i64 0) (.int .i64 0) (.int .i64 0) (.slice none 0 0)
  simp only [hw]
  clear hw
  exact bodyPost_ret (ret_cell_tmp rfl rfl (load_po gy)) rfl ⟨rfl, hy⟩
set_option maxRecDepth 100000 in
set_option maxHeartbeats 6400000 in
theorem poutM_ok (P : Pc) (X : Pa) (s : Ps) (YA : Option Addr) (yn yc : Nat) (w : World) (L : Py w w.heap.size P X) (SY : Sl w w.heap.size 1 YA (rows s.h)) (ey : yn = s.h.length) (hc : plCode P = 0) (h3 : s.h.length = 3) :
    Calls Tryz.prog 17 #[.agg #[.int .i64 P.m.r, .int .i64 P.m.m, .slice X.A1 X.n1 X.c1, .slice X.A2 X.n2 X.c2, .slice X.A3 X.n3 X.c3, .slice X.A4 X.n4 X.c4, .int .i64 P.m.p, .int .i64 P.m.s, .int .i64 P.m.f, .int .i64 P.l.num, .int .i64 P.l.den, .int .i64 P.l.sup, .int .i64 P.l.fed, .int .i64 P.l.ohm, .int .i64 P.l.bon, .int .i64 P.l.boff, .int .i64 P.l.bohm, .int .i64 P.g, .int .i64 P.d, .int .i64 P.y, .slice X.B1 X.m1 X.d1, .slice X.B2 X.m2 X.d2, .slice X.B3 X.m3 X.d3, .int .i64 P.wi, .int .i64 P.sw], .agg #[.int .i64 s.fd, .int .i64 s.fq, .int .i64 s.v, .bool s.b, .int .i64 s.po, .int .i64 s.sp, .slice YA yn yc, .int .i64 s.tn]] w fun e w' => (∃ A u, e = .returned (.tuple #[.agg #[.int .i64 (cuA P s), .int .i64 (cuB P s), .int .i64 (cuC P s), .int .i64 (clipI s.v 0 1048576), .int .i64 (angP s.po), .int .i64 (wrapP s.po), .int .i64 (clipI s.sp (-1073741824) 1073741824), .int .i64 (torq P.m s.fd s.fq), .slice A 3 u], .nilIface]) ∧ Sl w' w'.heap.size 1 A (rows (cels s.h 3)) ∧ (∀ ad, A = some ad → w.heap.size ≤ ad.block)) ∧ Below w.heap.size w w' := by
  have ok := pl_ok hc
  have k1 := fun (W : World) (h : Py W W.heap.size P X) => pckM P X W h
  simp only [hc, errV_zero] at k1
  obtain rfl : yn = 3 := by omega
  have k5 := fun (W : World) => angleM s.po s.sp W
  have k6 : ∀ (W : World) (h : Py W W.heap.size P X), Calls Tryz.prog 40 #[.agg #[.int .i64 P.m.r, .int .i64 P.m.m, .slice X.A1 X.n1 X.c1, .slice X.A2 X.n2 X.c2, .slice X.A3 X.n3 X.c3, .slice X.A4 X.n4 X.c4, .int .i64 P.m.p, .int .i64 P.m.s, .int .i64 P.m.f], .agg #[.int .i64 s.fd, .int .i64 s.fq], .int .i64 (angP s.po)] W fun e w' => e = .returned (.tuple #[.agg #[.int .i64 (cuA P s), .int .i64 (cuB P s), .int .i64 (cuC P s)], .nilIface]) ∧ Below W.heap.size W w' := fun W h => gphaM P X s.fd s.fq (angP s.po) W h ok.m
  have k8 := fun (W : World) (h : Py W W.heap.size P X) => gtorM P X s.fd s.fq W h ok.m
  have k9 := fun (W : World) => wrapM s.po W
  have k10 := fun (W : World) (h : Sl W W.heap.size 1 YA (rows s.h)) => (celM s.h YA 3 yc W h h3.symm (by omega)).mono fun _ _ q => grp2 q
  rw [← minmax_clip s.v 0 1048576 (by omega), ← minmax_clip s.sp (-1073741824) 1073741824 (by omega)]
  obtain ⟨T, hT⟩ : ∃ x, angP s.po = x := ⟨_, rfl⟩
  simp only [hT] at k5 k6 ⊢
  obtain ⟨a, ha⟩ : ∃ x, cuA P s = x := ⟨_, rfl⟩
  obtain ⟨b, hb'⟩ : ∃ x, cuB P s = x := ⟨_, rfl⟩
  obtain ⟨c, hc'⟩ : ∃ x, cuC P s = x := ⟨_, rfl⟩
  simp only [ha, hb', hc'] at k6 ⊢
  obtain ⟨TQ, hTQ⟩ : ∃ x, torq P.m s.fd s.fq = x := ⟨_, rfl⟩
  simp only [hTQ] at k8 ⊢
  obtain ⟨WP, hWP⟩ : ∃ x, wrapP s.po = x := ⟨_, rfl⟩
  simp only [hWP] at k9 ⊢
  have K1 := hide k1
  have K5 := hide k5
  have K6 := hide k6
  have K8 := hide k8
  have K9 := hide k9
  have K10 := hide k10
  clear k1 k5 k6 k8 k9 k10 hT ha hb' hc' hTQ hWP ok hc h3 ey
  have HB := Below.refl w.heap.size w
  obtain ⟨w1, eW1, sW1, rc, hb⟩ := box w #[.int .i64 P.m.r, .int .i64 P.m.m, .slice X.A1 X.n1 X.c1, .slice X.A2 X.n2 X.c2, .slice X.A3 X.n3 X.c3, .slice X.A4 X.n4 X.c4, .int .i64 P.m.p, .int .i64 P.m.s, .int .i64 P.m.f, .int .i64 P.l.num, .int .i64 P.l.den, .int .i64 P.l.sup, .int .i64 P.l.fed, .int .i64 P.l.ohm, .int .i64 P.l.bon, .int .i64 P.l.boff, .int .i64 P.l.bohm, .int .i64 P.g, .int .i64 P.d, .int .i64 P.y, .slice X.B1 X.m1 X.d1, .slice X.B2 X.m2 X.d2, .slice X.B3 X.m3 X.d3, .int .i64 P.wi, .int .i64 P.sw] 35 (g := w.heap.size) rfl HB (by have := HB.size; omega)
  have Qrc : Hid (w.heap.size ≤ w.heap.size) := Lib.hid (by have := HB.size; omega)
  replace HB := hb
  clear hb
  obtain ⟨w2, eW2, sW2, rs, hb⟩ := box w1 #[.int .i64 s.fd, .int .i64 s.fq, .int .i64 s.v, .bool s.b, .int .i64 s.po, .int .i64 s.sp, .slice YA 3 yc, .int .i64 s.tn] 47 (g := w.heap.size + 1) sW1 HB (by have := HB.size; omega)
  have Qrs : Hid (w.heap.size ≤ w.heap.size + 1 ∧ w.heap.size < w.heap.size + 1) := Lib.hid ⟨by have := HB.size; omega, by have := rc.lt; omega⟩
  replace rc := rc.al eW2
  replace HB := hb
  clear hb
  obtain ⟨w3, eW3, sW3, gz, hb⟩ := box w2 #[.int .i64 0, .int .i64 0, .int .i64 0, .int .i64 0, .int .i64 0, .int .i64 0, .int .i64 0, .int .i64 0, .slice none 0 0] 69 (g := w.heap.size + 1 + 1) sW2 HB (by have := HB.size; omega)
  have Qgz : Hid (w.heap.size ≤ w.heap.size + 1 + 1 ∧ w.heap.size < w.heap.size + 1 + 1 ∧ w.heap.size + 1 < w.heap.size + 1 + 1) := Lib.hid ⟨by have := HB.size; omega, by have := rc.lt; omega, by have := rs.lt; omega⟩
  replace rc := rc.al eW3
  replace rs := rs.al eW3
  replace HB := hb
  clear hb
  go_enter Tryz.func17, Tryz.ntmps17
  go_wp2_with (first | (refine wpList_load_row rfl 35 _ rfl (w.heap.size) rfl _ _ _ _ rc Tryz.underlying35 rfl (by kernel_rfl) ?_))
  with_reducible refine ((unhide K1) _ ((L.below HB).more HB.size)).mono ?_
  rintro e w4 ⟨rfl, hb⟩
  replace rc := rc.below hb rc.lt
  replace rs := rs.below hb rs.lt
  replace gz := gz.below hb gz.lt
  replace HB := HB.trans (hb.mono HB.size)
  clear hb
  clear eW1 sW1 eW2 sW2 eW3 sW3
  have rsc4 := rs.cell 4
  have rsc5 := rs.cell 5
  have rsc6 := rs.cell 6
  go_wp2_with fail
  with_reducible refine ((unhide K5) _).mono ?_
  rintro e w5 ⟨rfl, hb⟩
  replace rc := rc.below hb rc.lt
  replace rs := rs.below hb rs.lt
  replace gz := gz.below hb gz.lt
  replace HB := HB.trans (hb.mono HB.size)
  clear hb
  clear rsc4 rsc5 rsc6
  have rcc0 := rc.cell 0
  have rcc1 := rc.cell 1
  have rcc2 := rc.cell 2
  have rcc3 := rc.cell 3
  have rcc4 := rc.cell 4
  have rcc5 := rc.cell 5
  have rcc6 := rc.cell 6
  have rcc7 := rc.cell 7
  have rcc8 := rc.cell 8
  have rsc0 := rs.cell 0
  have rsc1 := rs.cell 1
  go_wp2_with fail
  with_reducible refine ((unhide K6) _ ((L.below HB).more HB.size)).mono ?_
  rintro e w6 ⟨rfl, hb⟩
  replace rc := rc.below hb rc.lt
  replace rs := rs.below hb rs.lt
  replace gz := gz.below hb gz.lt
  replace HB := HB.trans (hb.mono HB.size)
  clear hb
  clear rcc0 rcc1 rcc2 rcc3 rcc4 rcc5 rcc6 rcc7 rcc8 rsc0 rsc1
  have lrc := rc.lt
  have lrs := rs.lt
  have lgz := gz.lt
  have rcc0 := rc.cell 0
  have rcc1 := rc.cell 1
  have rcc2 := rc.cell 2
  have rcc3 := rc.cell 3
  have rcc4 := rc.cell 4
  have rcc5 := rc.cell 5
  have rcc6 := rc.cell 6
  have rcc7 := rc.cell 7
  have rcc8 := rc.cell 8
  have rsc0 := rs.cell 0
  have rsc1 := rs.cell 1
  go_wp2_with fail
  obtain ⟨w7, eW7, sW7, ra, hb⟩ := box w6 #[.int .i64 a, .int .i64 b, .int .i64 c] 67 (g := w6.heap.size) rfl HB (by have := HB.size; omega)
  have Qra : Hid (w.heap.size ≤ w6.heap.size ∧ w.heap.size < w6.heap.size ∧ w.heap.size + 1 < w6.heap.size ∧ w.heap.size + 1 + 1 < w6.heap.size) := Lib.hid ⟨by have := HB.size; omega, by have := rc.lt; omega, by have := rs.lt; omega, by have := gz.lt; omega⟩
  replace rc := rc.al eW7
  replace rs := rs.al eW7
  replace gz := gz.al eW7
  replace HB := hb
  clear hb
  simp only [eW7]
  with_reducible refine ((unhide K8) _ ((L.below HB).more HB.size)).mono ?_
  rintro e w8 ⟨rfl, hb⟩
  replace rc := rc.below hb rc.lt
  replace rs := rs.below hb rs.lt
  replace gz := gz.below hb gz.lt
  replace ra := ra.below hb ra.lt
  replace HB := HB.trans (hb.mono HB.size)
  clear hb
  clear lrc lrs lgz rcc0 rcc1 rcc2 rcc3 rcc4 rcc5 rcc6 rcc7 rcc8 rsc0 rsc1 eW7 sW7
  clear rc Qrc
  have rac0 := ra.cell 0
  have rac1 := ra.cell 1
  have rac2 := ra.cell 2
  have rsc2 := rs.cell 2
  have rsc4 := rs.cell 4
  have rsc5 := rs.cell 5
  have rsc6 := rs.cell 6
  go_wp2_with fail
  have HZ := gz.lt
  have hf0 : ∀ w', Below w8.heap.size w8.drew w' → w'.cell? ⟨w6.heap.size, 0, none⟩ = some (.int .i64 a) ∧ w'.cell? ⟨w6.heap.size, 1, none⟩ = some (.int .i64 b) ∧ w'.cell? ⟨w6.heap.size, 2, none⟩ = some (.int .i64 c) ∧ w'.cell? ⟨w.heap.size + 1, 2, none⟩ = some (.int .i64 s.v) ∧ w'.cell? ⟨w.heap.size + 1, 4, none⟩ = some (.int .i64 s.po) ∧ w'.cell? ⟨w.heap.size + 1, 5, none⟩ = some (.int .i64 s.sp) ∧ w'.cell? ⟨w.heap.size + 1, 6, none⟩ = some (.slice YA 3 yc) := fun w' hb => ⟨(ra.drew.below hb ra.lt).cell 0, (ra.drew.below hb ra.lt).cell 1, (ra.drew.below hb ra.lt).cell 2, (rs.drew.below hb rs.lt).cell 2, (rs.drew.below hb rs.lt).cell 4, (rs.drew.below hb rs.lt).cell 5, (rs.drew.below hb rs.lt).cell 6⟩
  have HF0 := hide hf0
  clear hf0
  refine wp_region_firm 19 _ (by rfl) (by rfl) w8.heap.size (by kernel_rfl) (by kernel_rfl) (fun _ _ _ _ _ h => h) ?_
  simp only [List.take_succ_cons, List.take_zero, List.drop_succ_cons, List.drop_zero]
  change firmL _ _ _ w8.drew _ _ _
  repeat (apply firm_next rfl; (intro w' hb; obtain ⟨y0, y1, y2, y3, y4, y5, y6⟩ := (unhide HF0) w' hb; unfold yv; go_simp; simp only [yvUpon]; first | exact ⟨trivial, rfl⟩ | exact ⟨trivial, qs ((unhide K9) w')⟩); (go_simp; exact rfl))
  refine firm_nil ?_
  unfold mild
  go_simp
  simp only [mildUpon]
  refine ⟨trivial, ?_⟩
  with_reducible refine ((unhide K10) _ ((SY.below HB.drew).more HB.drew.size)).mono ?_
  rintro e w9 ⟨⟨A, u, rfl, SA, fA⟩, hb⟩
  refine ⟨_, rfl, hb, ?_⟩
  replace rs := rs.drew.below hb rs.lt
  replace gz := gz.drew.below hb gz.lt
  replace ra := ra.drew.below hb ra.lt
  replace HB := HB.drew.trans (hb.mono HB.size)
  clear hb HF0
  clear rac0 rac1 rac2 rsc2 rsc4 rsc5 rsc6
  have gzc0 := gz.cell 0
  have gzc1 := gz.cell 1
  have gzc2 := gz.cell 2
  have gzc3 := gz.cell 3
  have gzc4 := gz.cell 4
  have gzc5 := gz.cell 5
  have gzc6 := gz.cell 6
  have gzc7 := gz.cell 7
  have gzc8 := gz.cell 8
  have fr0 := gz.frozen 0
  have fr1 := gz.frozen 1
  have fr2 := gz.frozen 2
  have fr3 := gz.frozen 3
  have fr4 := gz.frozen 4
  have fr5 := gz.frozen 5
  have fr6 := gz.frozen 6
  have fr7 := gz.frozen 7
  have fr8 := gz.frozen 8
  go_wp2
  obtain ⟨wz, hw⟩ : ∃ W, (((((((((w9.setCell ⟨w.heap.size + 1 + 1, 0, none⟩ (.int .i64 a)).setCell ⟨w.heap.size + 1 + 1, 1, none⟩ (.int .i64 b)).setCell ⟨w.heap.size + 1 + 1, 2, none⟩ (.int .i64 c)).setCell ⟨w.heap.size + 1 + 1, 3, none⟩ (.int .i64 (min (max s.v 0) 1048576))).setCell ⟨w.heap.size + 1 + 1, 4, none⟩ (.int .i64 T)).setCell ⟨w.heap.size + 1 + 1, 5, none⟩ (.int .i64 WP)).setCell ⟨w.heap.size + 1 + 1, 6, none⟩ (.int .i64 (min (max s.sp (-1073741824)) 1073741824))).setCell ⟨w.heap.size + 1 + 1, 7, none⟩ (.int .i64 TQ)).setCell ⟨w.heap.size + 1 + 1, 8, none⟩ (.slice A 3 u)) = W := ⟨_, rfl⟩
  have gy : Blk wz (w.heap.size + 1 + 1) 69 #[.int .i64 a, .int .i64 b, .int .i64 c, .int .i64 (min (max s.v 0) 1048576), .int .i64 T, .int .i64 WP, .int .i64 (min (max s.sp (-1073741824)) 1073741824), .int .i64 TQ, .slice A 3 u] := hw ▸ gz.fill9 (.int .i64 a) (.int .i64 b) (.int .i64 c) (.int .i64 (min (max s.v 0) 1048576)) (.int .i64 T) (.int .i64 WP) (.int .i64 (min (max s.sp (-1073741824)) 1073741824)) (.int .i64 TQ) (.slice A 3 u)
  have zy : wz.heap.size = w9.heap.size := by rw [← hw]; simp
  have hy : Below w.heap.size w wz := hw ▸ below_fill9 HB (by omega) (.int .i64 a) (.int .i64 b) (.int .i64 c) (.int .i64 (min (max s.v 0) 1048576)) (.int .i64 T) (.int .i64 WP) (.int .i64 (min (max s.sp (-1073741824)) 1073741824)) (.int .i64 TQ) (.slice A 3 u)
  have sy : Sl wz _ 1 A (rows (cels s.h 3)) := hw ▸ SA.fill9 (g := w.heap.size + 1 + 1) (fun ad h => by have h1 : w8.heap.size ≤ ad.block := fA ad h; have := HZ; omega) (.int .i64 a) (.int .i64 b) (.int .i64 c) (.int .i64 (min (max s.v 0) 1048576)) (.int .i64 T) (.int .i64 WP) (.int .i64 (min (max s.sp (-1073741824)) 1073741824)) (.int .i64 TQ) (.slice A 3 u)
  simp only [hw]
  clear hw
  exact bodyPost_ret (ret_cell_tmp rfl rfl (load_po gy)) rfl ⟨⟨A, u, rfl, sy.more (by omega), fun ad h => by have h1 : w8.heap.size ≤ ad.block := fA ad h; have := HZ; omega⟩, hy⟩
end Go.Proofs.YtpfkiohknpeifaaGreat
