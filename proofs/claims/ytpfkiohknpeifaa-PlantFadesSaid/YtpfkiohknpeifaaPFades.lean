/- The walk of the statement PlantFades. -/
import Derived.Test.YtpfkiohknpeifaaPAwake
import Derived.Test.YtpfkiohknpeifaaPLarge
import Derived.Test.YtpfkiohknpeifaaPLaws
import Derived.Test.YtpfkiohknpeifaaPFadesP
import Derived.Test.YtpfkiohknpeifaaPSame
import Derived.Lib.MinMax
import Derived.Deep.Cut
namespace Go.Proofs.Ytpfkiohknpeifaa
open Go.RowKit
set_option maxRecDepth 100000 in
set_option maxHeartbeats 6400000 in
theorem fades_large (P : Pc) (X : Pa) (s : Ps) (YA : Option Addr) (yn yc : Nat) (z : Pi) (GA : Option Addr) (gn gc : Nat) (w : World) (hl : lgP X yn gn = true) :
    Calls Try.prog 3 #[.agg #[.int .i64 P.m.r, .int .i64 P.m.m, .slice X.A1 X.n1 X.c1, .slice X.A2 X.n2 X.c2, .slice X.A3 X.n3 X.c3, .slice X.A4 X.n4 X.c4, .int .i64 P.m.p, .int .i64 P.m.s, .int .i64 P.m.f, .int .i64 P.l.num, .int .i64 P.l.den, .int .i64 P.l.sup, .int .i64 P.l.fed, .int .i64 P.l.ohm, .int .i64 P.l.bon, .int .i64 P.l.boff, .int .i64 P.l.bohm, .int .i64 P.g, .int .i64 P.d, .int .i64 P.y, .slice X.B1 X.m1 X.d1, .slice X.B2 X.m2 X.d2, .slice X.B3 X.m3 X.d3, .int .i64 P.wi, .int .i64 P.sw], .agg #[.int .i64 s.fd, .int .i64 s.fq, .int .i64 s.v, .bool s.b, .int .i64 s.po, .int .i64 s.sp, .slice YA yn yc, .int .i64 s.tn], .agg #[.int .i64 z.per, .bool z.b0, .bool z.b1, .bool z.b2, .bool z.b3, .bool z.b4, .bool z.b5, .slice GA gn gc, .int .i64 z.ld, .int .i64 z.amb, .bool z.k0, .bool z.k1, .bool z.k2, .bool z.k3, .bool z.k4, .bool z.k5, .bool z.de, .bool z.nb]] w fun e w' => e = .returned (.bool true) ∧ Below w.heap.size w w' := by
  have kl := fun W => large_walkP P X s YA yn yc z GA gn gc W
  simp only [hl] at kl
  have KL := hide kl
  clear kl
  clear hl
  have HB := Below.refl w.heap.size w
  obtain ⟨w1, eW1, sW1, rc, hb⟩ := box w #[.int .i64 P.m.r, .int .i64 P.m.m, .slice X.A1 X.n1 X.c1, .slice X.A2 X.n2 X.c2, .slice X.A3 X.n3 X.c3, .slice X.A4 X.n4 X.c4, .int .i64 P.m.p, .int .i64 P.m.s, .int .i64 P.m.f, .int .i64 P.l.num, .int .i64 P.l.den, .int .i64 P.l.sup, .int .i64 P.l.fed, .int .i64 P.l.ohm, .int .i64 P.l.bon, .int .i64 P.l.boff, .int .i64 P.l.bohm, .int .i64 P.g, .int .i64 P.d, .int .i64 P.y, .slice X.B1 X.m1 X.d1, .slice X.B2 X.m2 X.d2, .slice X.B3 X.m3 X.d3, .int .i64 P.wi, .int .i64 P.sw] 35 (g := w.heap.size) rfl HB (by have := HB.size; omega)
  have Qrc : Hid (w.heap.size ≤ w.heap.size) := Lib.hid (by have := HB.size; omega)
  replace HB := hb
  clear hb
  obtain ⟨w2, eW2, sW2, rs, hb⟩ := box w1 #[.int .i64 s.fd, .int .i64 s.fq, .int .i64 s.v, .bool s.b, .int .i64 s.po, .int .i64 s.sp, .slice YA yn yc, .int .i64 s.tn] 45 (g := w.heap.size + 1) sW1 HB (by have := HB.size; omega)
  have Qrs : Hid (w.heap.size ≤ w.heap.size + 1 ∧ w.heap.size < w.heap.size + 1) := Lib.hid ⟨by have := HB.size; omega, by have := rc.lt; omega⟩
  replace rc := rc.al eW2
  replace HB := hb
  clear hb
  obtain ⟨w3, eW3, sW3, ri, hb⟩ := box w2 #[.int .i64 z.per, .bool z.b0, .bool z.b1, .bool z.b2, .bool z.b3, .bool z.b4, .bool z.b5, .slice GA gn gc, .int .i64 z.ld, .int .i64 z.amb, .bool z.k0, .bool z.k1, .bool z.k2, .bool z.k3, .bool z.k4, .bool z.k5, .bool z.de, .bool z.nb] 51 (g := w.heap.size + 1 + 1) sW2 HB (by have := HB.size; omega)
  have Qri : Hid (w.heap.size ≤ w.heap.size + 1 + 1 ∧ w.heap.size < w.heap.size + 1 + 1 ∧ w.heap.size + 1 < w.heap.size + 1 + 1) := Lib.hid ⟨by have := HB.size; omega, by have := rc.lt; omega, by have := rs.lt; omega⟩
  replace rc := rc.al eW3
  replace rs := rs.al eW3
  replace HB := hb
  clear hb
  go_enter Try.func3, Try.ntmps3
  go_wp2_with fail
  with_reducible refine (awakeP_walk _).mono ?_
  rintro e w4 ⟨rfl, hb⟩
  replace rc := rc.below hb rc.lt
  replace rs := rs.below hb rs.lt
  replace ri := ri.below hb ri.lt
  replace HB := HB.trans (hb.mono HB.size)
  clear hb
  clear eW1 sW1 eW2 sW2 eW3 sW3
  go_wp2_with (first | (refine wpList_load_row rfl 35 _ rfl (w.heap.size) rfl _ _ _ _ rc Try.underlying35 rfl (by kernel_rfl) ?_) | (refine wpList_load_rowG 35 _ rfl (by go_simp) (w.heap.size) rfl _ _ _ _ rc Try.underlying35 rfl (by kernel_rfl) ?_) | (refine wpList_load_row rfl 45 _ rfl (w.heap.size + 1) rfl _ _ _ _ rs Try.underlying45 rfl (by kernel_rfl) ?_) | (refine wpList_load_rowG 45 _ rfl (by go_simp) (w.heap.size + 1) rfl _ _ _ _ rs Try.underlying45 rfl (by kernel_rfl) ?_) | (refine wpList_load_row rfl 51 _ rfl (w.heap.size + 1 + 1) rfl _ _ _ _ ri Try.underlying51 rfl (by kernel_rfl) ?_) | (refine wpList_load_rowG 51 _ rfl (by go_simp) (w.heap.size + 1 + 1) rfl _ _ _ _ ri Try.underlying51 rfl (by kernel_rfl) ?_))
  with_reducible refine ((unhide KL) _).mono ?_
  rintro e w5 ⟨rfl, hb⟩
  replace rc := rc.below hb rc.lt
  replace rs := rs.below hb rs.lt
  replace ri := ri.below hb ri.lt
  replace HB := HB.trans (hb.mono HB.size)
  clear hb
  go_wp2_with fail
  with_reducible refine (awakeP_walk _).mono ?_
  rintro e w6 ⟨rfl, hb⟩
  replace rc := rc.below hb rc.lt
  replace rs := rs.below hb rs.lt
  replace ri := ri.below hb ri.lt
  replace HB := HB.trans (hb.mono HB.size)
  clear hb
  go_wp2
  go_ret
  exact ⟨rfl, HB⟩
set_option maxRecDepth 100000 in
set_option maxHeartbeats 6400000 in
theorem fades_bad (P : Pc) (X : Pa) (s : Ps) (YA : Option Addr) (yn yc : Nat) (z : Pi) (GA : Option Addr) (gn gc : Nat) (w : World) (L : Py w w.heap.size P X) (ey : yn = s.h.length) (SG : Sl w w.heap.size 3 GA (z.es.map I.Ed.row)) (eg : gn = z.es.length) (hl : lgP X yn gn = false) (hc : stCode P s (zBr z) ≠ 0) :
    Calls Try.prog 3 #[.agg #[.int .i64 P.m.r, .int .i64 P.m.m, .slice X.A1 X.n1 X.c1, .slice X.A2 X.n2 X.c2, .slice X.A3 X.n3 X.c3, .slice X.A4 X.n4 X.c4, .int .i64 P.m.p, .int .i64 P.m.s, .int .i64 P.m.f, .int .i64 P.l.num, .int .i64 P.l.den, .int .i64 P.l.sup, .int .i64 P.l.fed, .int .i64 P.l.ohm, .int .i64 P.l.bon, .int .i64 P.l.boff, .int .i64 P.l.bohm, .int .i64 P.g, .int .i64 P.d, .int .i64 P.y, .slice X.B1 X.m1 X.d1, .slice X.B2 X.m2 X.d2, .slice X.B3 X.m3 X.d3, .int .i64 P.wi, .int .i64 P.sw], .agg #[.int .i64 s.fd, .int .i64 s.fq, .int .i64 s.v, .bool s.b, .int .i64 s.po, .int .i64 s.sp, .slice YA yn yc, .int .i64 s.tn], .agg #[.int .i64 z.per, .bool z.b0, .bool z.b1, .bool z.b2, .bool z.b3, .bool z.b4, .bool z.b5, .slice GA gn gc, .int .i64 z.ld, .int .i64 z.amb, .bool z.k0, .bool z.k1, .bool z.k2, .bool z.k3, .bool z.k4, .bool z.k5, .bool z.de, .bool z.nb]] w fun e w' => e = .returned (.bool true) ∧ Below w.heap.size w w' := by
  have kl := fun W => large_walkP P X s YA yn yc z GA gn gc W
  simp only [hl] at kl
  have KL := hide kl
  clear kl
  have gm : gn ≤ 1000000 := by have := lgP_gn hl; omega
  have k2 := fun (W : World) (h : Py W W.heap.size P X) (hg : Sl W W.heap.size 3 GA (z.es.map I.Ed.row)) => pstepM_bad P X s YA yn yc (zBr z) GA gn gc W h ey hg eg gm hc
  simp only [errV_ne hc] at k2
  dsimp only [zBr] at k2
  have K2 := hide k2
  clear k2 hl hc ey eg gm
  have HB := Below.refl w.heap.size w
  obtain ⟨w1, eW1, sW1, rc, hb⟩ := box w #[.int .i64 P.m.r, .int .i64 P.m.m, .slice X.A1 X.n1 X.c1, .slice X.A2 X.n2 X.c2, .slice X.A3 X.n3 X.c3, .slice X.A4 X.n4 X.c4, .int .i64 P.m.p, .int .i64 P.m.s, .int .i64 P.m.f, .int .i64 P.l.num, .int .i64 P.l.den, .int .i64 P.l.sup, .int .i64 P.l.fed, .int .i64 P.l.ohm, .int .i64 P.l.bon, .int .i64 P.l.boff, .int .i64 P.l.bohm, .int .i64 P.g, .int .i64 P.d, .int .i64 P.y, .slice X.B1 X.m1 X.d1, .slice X.B2 X.m2 X.d2, .slice X.B3 X.m3 X.d3, .int .i64 P.wi, .int .i64 P.sw] 35 (g := w.heap.size) rfl HB (by have := HB.size; omega)
  have Qrc : Hid (w.heap.size ≤ w.heap.size) := Lib.hid (by have := HB.size; omega)
  replace HB := hb
  clear hb
  obtain ⟨w2, eW2, sW2, rs, hb⟩ := box w1 #[.int .i64 s.fd, .int .i64 s.fq, .int .i64 s.v, .bool s.b, .int .i64 s.po, .int .i64 s.sp, .slice YA yn yc, .int .i64 s.tn] 45 (g := w.heap.size + 1) sW1 HB (by have := HB.size; omega)
  have Qrs : Hid (w.heap.size ≤ w.heap.size + 1 ∧ w.heap.size < w.heap.size + 1) := Lib.hid ⟨by have := HB.size; omega, by have := rc.lt; omega⟩
  replace rc := rc.al eW2
  replace HB := hb
  clear hb
  obtain ⟨w3, eW3, sW3, ri, hb⟩ := box w2 #[.int .i64 z.per, .bool z.b0, .bool z.b1, .bool z.b2, .bool z.b3, .bool z.b4, .bool z.b5, .slice GA gn gc, .int .i64 z.ld, .int .i64 z.amb, .bool z.k0, .bool z.k1, .bool z.k2, .bool z.k3, .bool z.k4, .bool z.k5, .bool z.de, .bool z.nb] 51 (g := w.heap.size + 1 + 1) sW2 HB (by have := HB.size; omega)
  have Qri : Hid (w.heap.size ≤ w.heap.size + 1 + 1 ∧ w.heap.size < w.heap.size + 1 + 1 ∧ w.heap.size + 1 < w.heap.size + 1 + 1) := Lib.hid ⟨by have := HB.size; omega, by have := rc.lt; omega, by have := rs.lt; omega⟩
  replace rc := rc.al eW3
  replace rs := rs.al eW3
  replace HB := hb
  clear hb
  go_enter Try.func3, Try.ntmps3
  go_wp2_with fail
  with_reducible refine (awakeP_walk _).mono ?_
  rintro e w4 ⟨rfl, hb⟩
  replace rc := rc.below hb rc.lt
  replace rs := rs.below hb rs.lt
  replace ri := ri.below hb ri.lt
  replace HB := HB.trans (hb.mono HB.size)
  clear hb
  clear eW1 sW1 eW2 sW2 eW3 sW3
  go_wp2_with (first | (refine wpList_load_row rfl 35 _ rfl (w.heap.size) rfl _ _ _ _ rc Try.underlying35 rfl (by kernel_rfl) ?_) | (refine wpList_load_rowG 35 _ rfl (by go_simp) (w.heap.size) rfl _ _ _ _ rc Try.underlying35 rfl (by kernel_rfl) ?_) | (refine wpList_load_row rfl 45 _ rfl (w.heap.size + 1) rfl _ _ _ _ rs Try.underlying45 rfl (by kernel_rfl) ?_) | (refine wpList_load_rowG 45 _ rfl (by go_simp) (w.heap.size + 1) rfl _ _ _ _ rs Try.underlying45 rfl (by kernel_rfl) ?_) | (refine wpList_load_row rfl 51 _ rfl (w.heap.size + 1 + 1) rfl _ _ _ _ ri Try.underlying51 rfl (by kernel_rfl) ?_) | (refine wpList_load_rowG 51 _ rfl (by go_simp) (w.heap.size + 1 + 1) rfl _ _ _ _ ri Try.underlying51 rfl (by kernel_rfl) ?_))
  with_reducible refine ((unhide KL) _).mono ?_
  rintro e w5 ⟨rfl, hb⟩
  replace rc := rc.below hb rc.lt
  replace rs := rs.below hb rs.lt
  replace ri := ri.below hb ri.lt
  replace HB := HB.trans (hb.mono HB.size)
  clear hb
  have ric10 := ri.cell 10
  have ric11 := ri.cell 11
  have ric12 := ri.cell 12
  have ric13 := ri.cell 13
  have ric14 := ri.cell 14
  have ric15 := ri.cell 15
  have fr10 := ri.frozen 10
  have fr11 := ri.frozen 11
  have fr12 := ri.frozen 12
  have fr13 := ri.frozen 13
  have fr14 := ri.frozen 14
  have fr15 := ri.frozen 15
  have qrc := Qrc.out
  have qrs := Qrs.out
  have qri := Qri.out
  have nrc : ¬ w.heap.size = w.heap.size + 1 + 1 := by omega
  have mrc : ¬ w.heap.size + 1 + 1 = w.heap.size := by omega
  have nrs : ¬ w.heap.size + 1 = w.heap.size + 1 + 1 := by omega
  have mrs : ¬ w.heap.size + 1 + 1 = w.heap.size + 1 := by omega
  clear qrc qrs qri
  go_upto_region 4 with (fail)
  have qrc := Qrc.out
  have qrs := Qrs.out
  have qri := Qri.out
  obtain ⟨w6, hw⟩ : ∃ W, ((((((w5.setCell ⟨w.heap.size + 1 + 1, 10, none⟩ (.bool true)).setCell ⟨w.heap.size + 1 + 1, 11, none⟩ (.bool true)).setCell ⟨w.heap.size + 1 + 1, 12, none⟩ (.bool true)).setCell ⟨w.heap.size + 1 + 1, 13, none⟩ (.bool true)).setCell ⟨w.heap.size + 1 + 1, 14, none⟩ (.bool true)).setCell ⟨w.heap.size + 1 + 1, 15, none⟩ (.bool true)) = W := ⟨_, rfl⟩
  replace rc : Blk w6 (w.heap.size) 35 #[.int .i64 P.m.r, .int .i64 P.m.m, .slice X.A1 X.n1 X.c1, .slice X.A2 X.n2 X.c2, .slice X.A3 X.n3 X.c3, .slice X.A4 X.n4 X.c4, .int .i64 P.m.p, .int .i64 P.m.s, .int .i64 P.m.f, .int .i64 P.l.num, .int .i64 P.l.den, .int .i64 P.l.sup, .int .i64 P.l.fed, .int .i64 P.l.ohm, .int .i64 P.l.bon, .int .i64 P.l.boff, .int .i64 P.l.bohm, .int .i64 P.g, .int .i64 P.d, .int .i64 P.y, .slice X.B1 X.m1 X.d1, .slice X.B2 X.m2 X.d2, .slice X.B3 X.m3 X.d3, .int .i64 P.wi, .int .i64 P.sw] := hw ▸ ((((((rc.far (by simp <;> omega) _).far (by simp <;> omega) _).far (by simp <;> omega) _).far (by simp <;> omega) _).far (by simp <;> omega) _).far (by simp <;> omega) _)
  replace rs : Blk w6 (w.heap.size + 1) 45 #[.int .i64 s.fd, .int .i64 s.fq, .int .i64 s.v, .bool s.b, .int .i64 s.po, .int .i64 s.sp, .slice YA yn yc, .int .i64 s.tn] := hw ▸ ((((((rs.far (by simp <;> omega) _).far (by simp <;> omega) _).far (by simp <;> omega) _).far (by simp <;> omega) _).far (by simp <;> omega) _).far (by simp <;> omega) _)
  replace ri : Blk w6 (w.heap.size + 1 + 1) 51 #[.int .i64 z.per, .bool z.b0, .bool z.b1, .bool z.b2, .bool z.b3, .bool z.b4, .bool z.b5, .slice GA gn gc, .int .i64 z.ld, .int .i64 z.amb, .bool true, .bool true, .bool true, .bool true, .bool true, .bool true, .bool z.de, .bool z.nb] := hw ▸ ((((((ri.set_ 10 _).set_ 11 _).set_ 12 _).set_ 13 _).set_ 14 _).set_ 15 _)
  replace HB : Below w.heap.size w w6 := hw ▸ ((((((HB.setCell (by simp <;> omega) _).setCell (by simp <;> omega) _).setCell (by simp <;> omega) _).setCell (by simp <;> omega) _).setCell (by simp <;> omega) _).setCell (by simp <;> omega) _)
  simp only [hw]
  clear hw
  clear ric10 ric11 ric12 ric13 ric14 ric15 fr10 fr11 fr12 fr13 fr14 fr15 nrc mrc nrs mrs qrc qrs qri
  go_wp2_with (first | (refine wpList_load_row rfl 35 _ rfl (w.heap.size) rfl _ _ _ _ rc Try.underlying35 rfl (by kernel_rfl) ?_) | (refine wpList_load_row rfl 45 _ rfl (w.heap.size + 1) rfl _ _ _ _ rs Try.underlying45 rfl (by kernel_rfl) ?_) | (refine wpList_load_row rfl 51 _ rfl (w.heap.size + 1 + 1) rfl _ _ _ _ ri Try.underlying51 rfl (by kernel_rfl) ?_))
  with_reducible refine ((unhide K2) _ ((L.below HB).more HB.size) ((SG.below HB).more HB.size)).mono ?_
  rintro e w7 ⟨rfl, hb⟩
  replace rc := rc.below hb rc.lt
  replace rs := rs.below hb rs.lt
  replace ri := ri.below hb ri.lt
  replace HB := HB.trans (hb.mono HB.size)
  clear hb
  obtain ⟨w8, eW8, sW8, rt, hb⟩ := box w7 #[.int .i64 0, .int .i64 0, .int .i64 0, .bool false, .int .i64 0, .int .i64 0, .slice none 0 0, .int .i64 0] 45 (g := w7.heap.size) rfl HB (by have := HB.size; omega)
  have Qrt : Hid (w.heap.size ≤ w7.heap.size ∧ w.heap.size < w7.heap.size ∧ w.heap.size + 1 < w7.heap.size ∧ w.heap.size + 1 + 1 < w7.heap.size) := Lib.hid ⟨by have := HB.size; omega, by have := rc.lt; omega, by have := rs.lt; omega, by have := ri.lt; omega⟩
  replace rc := rc.al eW8
  replace rs := rs.al eW8
  replace ri := ri.al eW8
  replace HB := hb
  clear hb
  have qrc := Qrc.out
  have qrs := Qrs.out
  have qri := Qri.out
  have qrt := Qrt.out
  have rto8 := rt
  obtain ⟨w9, eW9, sW9, hr, hb⟩ := rowX rt #[.int .i64 0, .int .i64 0, .int .i64 0, .bool false, .int .i64 0, .int .i64 0, .slice none 0 0, .int .i64 0] (n := w7.heap.size + 1) sW8 HB (by omega)
  replace rc := rc.rowTo eW9 (by omega)
  replace rs := rs.rowTo eW9 (by omega)
  replace ri := ri.rowTo eW9 (by omega)
  replace rt := hr
  replace HB := hb
  clear hb hr qrc qrs qri qrt
  go_wp2_with (first | (refine wpList_store_row rfl 45 _ _ rfl (w7.heap.size) #[.int .i64 0, .int .i64 0, .int .i64 0, .bool false, .int .i64 0, .int .i64 0, .slice none 0 0, .int .i64 0] rfl rfl _ _ rto8 (by kernel_rfl) (by kernel_rfl) (by kernel_rfl) ?_))
  go_ret
  exact ⟨rfl, HB⟩
set_option maxRecDepth 100000 in
set_option maxHeartbeats 6400000 in
theorem fades_ok (P : Pc) (X : Pa) (s : Ps) (YA : Option Addr) (yn yc : Nat) (z : Pi) (GA : Option Addr) (gn gc : Nat) (w : World) (L : Py w w.heap.size P X) (SY : Sl w w.heap.size 1 YA (rows s.h)) (ey : yn = s.h.length) (SG : Sl w w.heap.size 3 GA (z.es.map I.Ed.row)) (eg : gn = z.es.length) (hl : lgP X yn gn = false) (hc : stCode P s (zBr z) = 0) :
    Calls Try.prog 3 #[.agg #[.int .i64 P.m.r, .int .i64 P.m.m, .slice X.A1 X.n1 X.c1, .slice X.A2 X.n2 X.c2, .slice X.A3 X.n3 X.c3, .slice X.A4 X.n4 X.c4, .int .i64 P.m.p, .int .i64 P.m.s, .int .i64 P.m.f, .int .i64 P.l.num, .int .i64 P.l.den, .int .i64 P.l.sup, .int .i64 P.l.fed, .int .i64 P.l.ohm, .int .i64 P.l.bon, .int .i64 P.l.boff, .int .i64 P.l.bohm, .int .i64 P.g, .int .i64 P.d, .int .i64 P.y, .slice X.B1 X.m1 X.d1, .slice X.B2 X.m2 X.d2, .slice X.B3 X.m3 X.d3, .int .i64 P.wi, .int .i64 P.sw], .agg #[.int .i64 s.fd, .int .i64 s.fq, .int .i64 s.v, .bool s.b, .int .i64 s.po, .int .i64 s.sp, .slice YA yn yc, .int .i64 s.tn], .agg #[.int .i64 z.per, .bool z.b0, .bool z.b1, .bool z.b2, .bool z.b3, .bool z.b4, .bool z.b5, .slice GA gn gc, .int .i64 z.ld, .int .i64 z.amb, .bool z.k0, .bool z.k1, .bool z.k2, .bool z.k3, .bool z.k4, .bool z.k5, .bool z.de, .bool z.nb]] w fun e w' => e = .returned (.bool true) ∧ Below w.heap.size w w' := by
  have kl := fun W => large_walkP P X s YA yn yc z GA gn gc W
  simp only [hl] at kl
  have KL := hide kl
  clear kl
  obtain ⟨hp, hi⟩ := st_ok hc
  have okm := cf_ok (pl_ok hp).m
  have hck : I.chk z.per z.es = 0 := hi.c
  have gm : gn ≤ 1000000 := by have := lgP_gn hl; omega
  have k2 := fun (W : World) (h : Py W W.heap.size P X) (hy : Sl W W.heap.size 1 YA (rows s.h)) (hg : Sl W W.heap.size 3 GA (z.es.map I.Ed.row)) => pstepM_k P X s YA yn yc (zBr z) GA gn gc W h hy ey hg eg gm hc
  have k3 := fun (W : World) (h : Py W W.heap.size P X) (hy : Sl W W.heap.size 1 YA (rows s.h)) => pstepM_k P X s YA yn yc (zOf z) none 0 0 W h hy ey (Sl.nil _ _ _ _) rfl (by decide) (fades_code hc)
  have hd := fades_d (P := P) (s := s) hck
  have hlen : (pxS P s (zBr z)).h.length = 3 := pxS_len
  simp only [fades_same hck] at k3
  obtain ⟨nx, hnx⟩ : ∃ x, pxS P s (zBr z) = x := ⟨_, rfl⟩
  simp only [hnx] at k2 k3 hlen
  rw [hnx] at hd
  dsimp only [zBr] at k2
  dsimp only [zOf] at k3
  have k4 := fun (W : World) (h : Py W W.heap.size P X) => gcurM P X s.fd s.fq W h (pl_ok hp).m
  have k5 := fun (W : World) (h : Py W W.heap.size P X) => gcurM P X nx.fd nx.fq W h (pl_ok hp).m
  have k6 := fun (W : World) (A B : Option Addr) (ca cb : Nat) (h1 : Sl W W.heap.size 1 A (rows nx.h)) (h2 : Sl W W.heap.size 1 B (rows nx.h)) => sameR nx.fd nx.fq nx.v nx.po nx.sp nx.tn nx.b nx.h A B 3 ca cb W h1 h2 hlen.symm (by omega)
  have fD := fadeD okm s.fd s.fq
  have fQ := fadeQ okm s.fd s.fq
  rw [← hd.1] at fD
  rw [← hd.2] at fQ
  have b1 := curD_bd okm s.fd
  have b2 := curQ_bd okm s.fq
  have b3 := curD_bd okm nx.fd
  have b4 := curQ_bd okm nx.fq
  obtain ⟨i1, g1⟩ : ∃ x, curD P.m s.fd = x := ⟨_, rfl⟩
  obtain ⟨i2, g2⟩ : ∃ x, curQ P.m s.fq = x := ⟨_, rfl⟩
  obtain ⟨j1, g3⟩ : ∃ x, curD P.m nx.fd = x := ⟨_, rfl⟩
  obtain ⟨j2, g4⟩ : ∃ x, curQ P.m nx.fq = x := ⟨_, rfl⟩
  simp only [g1, g2] at k4
  simp only [g3, g4] at k5
  rw [g1, g3] at fD
  rw [g2, g4] at fQ
  rw [g1] at b1
  rw [g2] at b2
  rw [g3] at b3
  rw [g4] at b4
  have m1 : max j1 (-j1) ≤ max i1 (-i1) := by omega
  have m2 : max j2 (-j2) ≤ max i2 (-i2) := by omega
  have e1 : wrap64 (-i1) = -i1 := by unfold wrap64; omega
  have e2 : wrap64 (-i2) = -i2 := by unfold wrap64; omega
  have e3 : wrap64 (-j1) = -j1 := by unfold wrap64; omega
  have e4 : wrap64 (-j2) = -j2 := by unfold wrap64; omega
  have K2 := hide k2
  have K3 := hide k3
  have K4 := hide k4
  have K5 := hide k5
  have K6 := hide k6
  clear k2 k3 k4 k5 k6 fD fQ b1 b2 b3 b4 g1 g2 g3 g4 hd hnx hlen hck okm gm hp hi hl hc ey eg
  have HB := Below.refl w.heap.size w
  obtain ⟨w1, eW1, sW1, rc, hb⟩ := box w #[.int .i64 P.m.r, .int .i64 P.m.m, .slice X.A1 X.n1 X.c1, .slice X.A2 X.n2 X.c2, .slice X.A3 X.n3 X.c3, .slice X.A4 X.n4 X.c4, .int .i64 P.m.p, .int .i64 P.m.s, .int .i64 P.m.f, .int .i64 P.l.num, .int .i64 P.l.den, .int .i64 P.l.sup, .int .i64 P.l.fed, .int .i64 P.l.ohm, .int .i64 P.l.bon, .int .i64 P.l.boff, .int .i64 P.l.bohm, .int .i64 P.g, .int .i64 P.d, .int .i64 P.y, .slice X.B1 X.m1 X.d1, .slice X.B2 X.m2 X.d2, .slice X.B3 X.m3 X.d3, .int .i64 P.wi, .int .i64 P.sw] 35 (g := w.heap.size) rfl HB (by have := HB.size; omega)
  have Qrc : Hid (w.heap.size ≤ w.heap.size) := Lib.hid (by have := HB.size; omega)
  replace HB := hb
  clear hb
  obtain ⟨w2, eW2, sW2, rs, hb⟩ := box w1 #[.int .i64 s.fd, .int .i64 s.fq, .int .i64 s.v, .bool s.b, .int .i64 s.po, .int .i64 s.sp, .slice YA yn yc, .int .i64 s.tn] 45 (g := w.heap.size + 1) sW1 HB (by have := HB.size; omega)
  have Qrs : Hid (w.heap.size ≤ w.heap.size + 1 ∧ w.heap.size < w.heap.size + 1) := Lib.hid ⟨by have := HB.size; omega, by have := rc.lt; omega⟩
  replace rc := rc.al eW2
  replace HB := hb
  clear hb
  obtain ⟨w3, eW3, sW3, ri, hb⟩ := box w2 #[.int .i64 z.per, .bool z.b0, .bool z.b1, .bool z.b2, .bool z.b3, .bool z.b4, .bool z.b5, .slice GA gn gc, .int .i64 z.ld, .int .i64 z.amb, .bool z.k0, .bool z.k1, .bool z.k2, .bool z.k3, .bool z.k4, .bool z.k5, .bool z.de, .bool z.nb] 51 (g := w.heap.size + 1 + 1) sW2 HB (by have := HB.size; omega)
  have Qri : Hid (w.heap.size ≤ w.heap.size + 1 + 1 ∧ w.heap.size < w.heap.size + 1 + 1 ∧ w.heap.size + 1 < w.heap.size + 1 + 1) := Lib.hid ⟨by have := HB.size; omega, by have := rc.lt; omega, by have := rs.lt; omega⟩
  replace rc := rc.al eW3
  replace rs := rs.al eW3
  replace HB := hb
  clear hb
  go_enter Try.func3, Try.ntmps3
  go_wp2_with fail
  with_reducible refine (awakeP_walk _).mono ?_
  rintro e w4 ⟨rfl, hb⟩
  replace rc := rc.below hb rc.lt
  replace rs := rs.below hb rs.lt
  replace ri := ri.below hb ri.lt
  replace HB := HB.trans (hb.mono HB.size)
  clear hb
  clear eW1 sW1 eW2 sW2 eW3 sW3
  go_wp2_with (first | (refine wpList_load_row rfl 35 _ rfl (w.heap.size) rfl _ _ _ _ rc Try.underlying35 rfl (by kernel_rfl) ?_) | (refine wpList_load_rowG 35 _ rfl (by go_simp) (w.heap.size) rfl _ _ _ _ rc Try.underlying35 rfl (by kernel_rfl) ?_) | (refine wpList_load_row rfl 45 _ rfl (w.heap.size + 1) rfl _ _ _ _ rs Try.underlying45 rfl (by kernel_rfl) ?_) | (refine wpList_load_rowG 45 _ rfl (by go_simp) (w.heap.size + 1) rfl _ _ _ _ rs Try.underlying45 rfl (by kernel_rfl) ?_) | (refine wpList_load_row rfl 51 _ rfl (w.heap.size + 1 + 1) rfl _ _ _ _ ri Try.underlying51 rfl (by kernel_rfl) ?_) | (refine wpList_load_rowG 51 _ rfl (by go_simp) (w.heap.size + 1 + 1) rfl _ _ _ _ ri Try.underlying51 rfl (by kernel_rfl) ?_))
  with_reducible refine ((unhide KL) _).mono ?_
  rintro e w5 ⟨rfl, hb⟩
  replace rc := rc.below hb rc.lt
  replace rs := rs.below hb rs.lt
  replace ri := ri.below hb ri.lt
  replace HB := HB.trans (hb.mono HB.size)
  clear hb
  have ric10 := ri.cell 10
  have ric11 := ri.cell 11
  have ric12 := ri.cell 12
  have ric13 := ri.cell 13
  have ric14 := ri.cell 14
  have ric15 := ri.cell 15
  have fr10 := ri.frozen 10
  have fr11 := ri.frozen 11
  have fr12 := ri.frozen 12
  have fr13 := ri.frozen 13
  have fr14 := ri.frozen 14
  have fr15 := ri.frozen 15
  have qrc := Qrc.out
  have qrs := Qrs.out
  have qri := Qri.out
  have nrc : ¬ w.heap.size = w.heap.size + 1 + 1 := by omega
  have mrc : ¬ w.heap.size + 1 + 1 = w.heap.size := by omega
  have nrs : ¬ w.heap.size + 1 = w.heap.size + 1 + 1 := by omega
  have mrs : ¬ w.heap.size + 1 + 1 = w.heap.size + 1 := by omega
  clear qrc qrs qri
  go_upto_region 4 with (fail)
  have qrc := Qrc.out
  have qrs := Qrs.out
  have qri := Qri.out
  obtain ⟨w6, hw⟩ : ∃ W, ((((((w5.setCell ⟨w.heap.size + 1 + 1, 10, none⟩ (.bool true)).setCell ⟨w.heap.size + 1 + 1, 11, none⟩ (.bool true)).setCell ⟨w.heap.size + 1 + 1, 12, none⟩ (.bool true)).setCell ⟨w.heap.size + 1 + 1, 13, none⟩ (.bool true)).setCell ⟨w.heap.size + 1 + 1, 14, none⟩ (.bool true)).setCell ⟨w.heap.size + 1 + 1, 15, none⟩ (.bool true)) = W := ⟨_, rfl⟩
  replace rc : Blk w6 (w.heap.size) 35 #[.int .i64 P.m.r, .int .i64 P.m.m, .slice X.A1 X.n1 X.c1, .slice X.A2 X.n2 X.c2, .slice X.A3 X.n3 X.c3, .slice X.A4 X.n4 X.c4, .int .i64 P.m.p, .int .i64 P.m.s, .int .i64 P.m.f, .int .i64 P.l.num, .int .i64 P.l.den, .int .i64 P.l.sup, .int .i64 P.l.fed, .int .i64 P.l.ohm, .int .i64 P.l.bon, .int .i64 P.l.boff, .int .i64 P.l.bohm, .int .i64 P.g, .int .i64 P.d, .int .i64 P.y, .slice X.B1 X.m1 X.d1, .slice X.B2 X.m2 X.d2, .slice X.B3 X.m3 X.d3, .int .i64 P.wi, .int .i64 P.sw] := hw ▸ ((((((rc.far (by simp <;> omega) _).far (by simp <;> omega) _).far (by simp <;> omega) _).far (by simp <;> omega) _).far (by simp <;> omega) _).far (by simp <;> omega) _)
  replace rs : Blk w6 (w.heap.size + 1) 45 #[.int .i64 s.fd, .int .i64 s.fq, .int .i64 s.v, .bool s.b, .int .i64 s.po, .int .i64 s.sp, .slice YA yn yc, .int .i64 s.tn] := hw ▸ ((((((rs.far (by simp <;> omega) _).far (by simp <;> omega) _).far (by simp <;> omega) _).far (by simp <;> omega) _).far (by simp <;> omega) _).far (by simp <;> omega) _)
  replace ri : Blk w6 (w.heap.size + 1 + 1) 51 #[.int .i64 z.per, .bool z.b0, .bool z.b1, .bool z.b2, .bool z.b3, .bool z.b4, .bool z.b5, .slice GA gn gc, .int .i64 z.ld, .int .i64 z.amb, .bool true, .bool true, .bool true, .bool true, .bool true, .bool true, .bool z.de, .bool z.nb] := hw ▸ ((((((ri.set_ 10 _).set_ 11 _).set_ 12 _).set_ 13 _).set_ 14 _).set_ 15 _)
  replace HB : Below w.heap.size w w6 := hw ▸ ((((((HB.setCell (by simp <;> omega) _).setCell (by simp <;> omega) _).setCell (by simp <;> omega) _).setCell (by simp <;> omega) _).setCell (by simp <;> omega) _).setCell (by simp <;> omega) _)
  simp only [hw]
  clear hw
  clear ric10 ric11 ric12 ric13 ric14 ric15 fr10 fr11 fr12 fr13 fr14 fr15 nrc mrc nrs mrs qrc qrs qri
  go_wp2_with (first | (refine wpList_load_row rfl 35 _ rfl (w.heap.size) rfl _ _ _ _ rc Try.underlying35 rfl (by kernel_rfl) ?_) | (refine wpList_load_row rfl 45 _ rfl (w.heap.size + 1) rfl _ _ _ _ rs Try.underlying45 rfl (by kernel_rfl) ?_) | (refine wpList_load_row rfl 51 _ rfl (w.heap.size + 1 + 1) rfl _ _ _ _ ri Try.underlying51 rfl (by kernel_rfl) ?_))
  with_reducible refine ((unhide K2) _ ((L.below HB).more HB.size) ((SY.below HB).more HB.size) ((SG.below HB).more HB.size)).mono ?_
  rintro e w7 ⟨⟨A, ca, rfl, SA, fA⟩, hb⟩
  replace rc := rc.below hb rc.lt
  replace rs := rs.below hb rs.lt
  replace ri := ri.below hb ri.lt
  replace HB := HB.trans (hb.mono HB.size)
  clear hb
  clear fA
  have HS := Below.refl w7.heap.size w7
  obtain ⟨w8, eW8, sW8, rt, hb⟩ := box w7 #[.int .i64 0, .int .i64 0, .int .i64 0, .bool false, .int .i64 0, .int .i64 0, .slice none 0 0, .int .i64 0] 45 (g := w7.heap.size) rfl HB (by have := HB.size; omega)
  have Qrt : Hid (w.heap.size ≤ w7.heap.size ∧ w7.heap.size ≤ w7.heap.size ∧ w.heap.size < w7.heap.size ∧ w.heap.size + 1 < w7.heap.size ∧ w.heap.size + 1 + 1 < w7.heap.size) := Lib.hid ⟨by have := HB.size; omega, by have := HS.size; omega, by have := rc.lt; omega, by have := rs.lt; omega, by have := ri.lt; omega⟩
  replace rc := rc.al eW8
  replace rs := rs.al eW8
  replace ri := ri.al eW8
  replace HS : Below w7.heap.size w7 w8 := eW8 ▸ HS.alloc HS.size _
  replace HB := hb
  clear hb
  have qrc := Qrc.out
  have qrs := Qrs.out
  have qri := Qri.out
  have qrt := Qrt.out
  have uHS := HS.size
  have rto8 := rt
  obtain ⟨w9, eW9, sW9, hr, hb⟩ := rowX rt #[.int .i64 nx.fd, .int .i64 nx.fq, .int .i64 nx.v, .bool nx.b, .int .i64 nx.po, .int .i64 nx.sp, .slice A 3 ca, .int .i64 nx.tn] (n := w7.heap.size + 1) sW8 HB (by omega)
  replace rc := rc.rowTo eW9 (by omega)
  replace rs := rs.rowTo eW9 (by omega)
  replace ri := ri.rowTo eW9 (by omega)
  replace rt := hr
  have HSo := HS
  replace HS : Below w7.heap.size w7 w9 := eW9 ▸ below_row HS (by omega)
  replace HB := hb
  clear hb hr qrc qrs qri qrt uHS
  have rix9 := ri
  obtain ⟨w10, eW10, sW10, ro, hb⟩ := box w9 #[.int .i64 0, .bool false, .bool false, .bool false, .bool false, .bool false, .bool false, .slice none 0 0, .int .i64 0, .int .i64 0, .bool false, .bool false, .bool false, .bool false, .bool false, .bool false, .bool false, .bool false] 51 (g := w7.heap.size + 1) sW9 HB (by have := HB.size; omega)
  have Qro : Hid (w.heap.size ≤ w7.heap.size + 1 ∧ w7.heap.size ≤ w7.heap.size + 1 ∧ w.heap.size < w7.heap.size + 1 ∧ w.heap.size + 1 < w7.heap.size + 1 ∧ w.heap.size + 1 + 1 < w7.heap.size + 1 ∧ w7.heap.size < w7.heap.size + 1) := Lib.hid ⟨by have := HB.size; omega, by have := HS.size; omega, by have := rc.lt; omega, by have := rs.lt; omega, by have := ri.lt; omega, by have := rt.lt; omega⟩
  replace rc := rc.al eW10
  replace rs := rs.al eW10
  replace ri := ri.al eW10
  replace rt := rt.al eW10
  replace HS : Below w7.heap.size w7 w10 := eW10 ▸ HS.alloc HS.size _
  replace HB := hb
  clear hb
  have qrc := Qrc.out
  have qrs := Qrs.out
  have qri := Qri.out
  have qrt := Qrt.out
  have qro := Qro.out
  have uHS := HS.size
  have roo10 := ro
  obtain ⟨w11, eW11, sW11, hr, hb⟩ := rowX ro #[.int .i64 z.per, .bool z.b0, .bool z.b1, .bool z.b2, .bool z.b3, .bool z.b4, .bool z.b5, .slice GA gn gc, .int .i64 z.ld, .int .i64 z.amb, .bool true, .bool true, .bool true, .bool true, .bool true, .bool true, .bool z.de, .bool z.nb] (n := w7.heap.size + 1 + 1) sW10 HB (by omega)
  replace rc := rc.rowTo eW11 (by omega)
  replace rs := rs.rowTo eW11 (by omega)
  replace ri := ri.rowTo eW11 (by omega)
  replace rt := rt.rowTo eW11 (by omega)
  replace ro := hr
  have HSo := HS
  replace HS : Below w7.heap.size w7 w11 := eW11 ▸ below_row HS (by omega)
  replace HB := hb
  clear hb hr qrc qrs qri qrt qro uHS
  go_upto_region 8 with ((first | (refine wpList_store_row rfl 45 _ _ rfl (w7.heap.size) #[.int .i64 nx.fd, .int .i64 nx.fq, .int .i64 nx.v, .bool nx.b, .int .i64 nx.po, .int .i64 nx.sp, .slice A 3 ca, .int .i64 nx.tn] rfl rfl _ _ rto8 (by kernel_rfl) (by kernel_rfl) (by kernel_rfl) ?_) | (refine wpList_load_row rfl 51 _ rfl (w.heap.size + 1 + 1) rfl _ _ _ _ rix9 Try.underlying51 rfl (by kernel_rfl) ?_) | (refine wpList_store_row rfl 51 _ _ rfl (w7.heap.size + 1) #[.int .i64 z.per, .bool z.b0, .bool z.b1, .bool z.b2, .bool z.b3, .bool z.b4, .bool z.b5, .slice GA gn gc, .int .i64 z.ld, .int .i64 z.amb, .bool true, .bool true, .bool true, .bool true, .bool true, .bool true, .bool z.de, .bool z.nb] rfl rfl _ _ roo10 (by kernel_rfl) (by kernel_rfl) (by kernel_rfl) ?_)))
  try simp only [eW11]
  clear rto8 rix9 roo10 eW8 sW8 eW9 sW9 eW10 sW10 eW11 sW11
  have roc10 := ro.cell 10
  have roc11 := ro.cell 11
  have roc12 := ro.cell 12
  have roc13 := ro.cell 13
  have roc14 := ro.cell 14
  have roc15 := ro.cell 15
  have fr10 := ro.frozen 10
  have fr11 := ro.frozen 11
  have fr12 := ro.frozen 12
  have fr13 := ro.frozen 13
  have fr14 := ro.frozen 14
  have fr15 := ro.frozen 15
  have qrc := Qrc.out
  have qrs := Qrs.out
  have qri := Qri.out
  have qrt := Qrt.out
  have qro := Qro.out
  have nrc : ¬ w.heap.size = w7.heap.size + 1 := by omega
  have mrc : ¬ w7.heap.size + 1 = w.heap.size := by omega
  have nrs : ¬ w.heap.size + 1 = w7.heap.size + 1 := by omega
  have mrs : ¬ w7.heap.size + 1 = w.heap.size + 1 := by omega
  have nri : ¬ w.heap.size + 1 + 1 = w7.heap.size + 1 := by omega
  have mri : ¬ w7.heap.size + 1 = w.heap.size + 1 + 1 := by omega
  have nrt : ¬ w7.heap.size = w7.heap.size + 1 := by omega
  have mrt : ¬ w7.heap.size + 1 = w7.heap.size := by omega
  clear qrc qrs qri qrt qro
  go_upto_region 9 with (fail)
  have qrc := Qrc.out
  have qrs := Qrs.out
  have qri := Qri.out
  have qrt := Qrt.out
  have qro := Qro.out
  obtain ⟨w12, hw⟩ : ∃ W, ((((((w11.setCell ⟨w7.heap.size + 1, 10, none⟩ (.bool false)).setCell ⟨w7.heap.size + 1, 11, none⟩ (.bool false)).setCell ⟨w7.heap.size + 1, 12, none⟩ (.bool false)).setCell ⟨w7.heap.size + 1, 13, none⟩ (.bool false)).setCell ⟨w7.heap.size + 1, 14, none⟩ (.bool false)).setCell ⟨w7.heap.size + 1, 15, none⟩ (.bool false)) = W := ⟨_, rfl⟩
  replace rc : Blk w12 (w.heap.size) 35 #[.int .i64 P.m.r, .int .i64 P.m.m, .slice X.A1 X.n1 X.c1, .slice X.A2 X.n2 X.c2, .slice X.A3 X.n3 X.c3, .slice X.A4 X.n4 X.c4, .int .i64 P.m.p, .int .i64 P.m.s, .int .i64 P.m.f, .int .i64 P.l.num, .int .i64 P.l.den, .int .i64 P.l.sup, .int .i64 P.l.fed, .int .i64 P.l.ohm, .int .i64 P.l.bon, .int .i64 P.l.boff, .int .i64 P.l.bohm, .int .i64 P.g, .int .i64 P.d, .int .i64 P.y, .slice X.B1 X.m1 X.d1, .slice X.B2 X.m2 X.d2, .slice X.B3 X.m3 X.d3, .int .i64 P.wi, .int .i64 P.sw] := hw ▸ ((((((rc.far (by simp <;> omega) _).far (by simp <;> omega) _).far (by simp <;> omega) _).far (by simp <;> omega) _).far (by simp <;> omega) _).far (by simp <;> omega) _)
  replace rs : Blk w12 (w.heap.size + 1) 45 #[.int .i64 s.fd, .int .i64 s.fq, .int .i64 s.v, .bool s.b, .int .i64 s.po, .int .i64 s.sp, .slice YA yn yc, .int .i64 s.tn] := hw ▸ ((((((rs.far (by simp <;> omega) _).far (by simp <;> omega) _).far (by simp <;> omega) _).far (by simp <;> omega) _).far (by simp <;> omega) _).far (by simp <;> omega) _)
  replace ri : Blk w12 (w.heap.size + 1 + 1) 51 #[.int .i64 z.per, .bool z.b0, .bool z.b1, .bool z.b2, .bool z.b3, .bool z.b4, .bool z.b5, .slice GA gn gc, .int .i64 z.ld, .int .i64 z.amb, .bool true, .bool true, .bool true, .bool true, .bool true, .bool true, .bool z.de, .bool z.nb] := hw ▸ ((((((ri.far (by simp <;> omega) _).far (by simp <;> omega) _).far (by simp <;> omega) _).far (by simp <;> omega) _).far (by simp <;> omega) _).far (by simp <;> omega) _)
  replace rt : Blk w12 (w7.heap.size) 45 #[.int .i64 nx.fd, .int .i64 nx.fq, .int .i64 nx.v, .bool nx.b, .int .i64 nx.po, .int .i64 nx.sp, .slice A 3 ca, .int .i64 nx.tn] := hw ▸ ((((((rt.far (by simp <;> omega) _).far (by simp <;> omega) _).far (by simp <;> omega) _).far (by simp <;> omega) _).far (by simp <;> omega) _).far (by simp <;> omega) _)
  replace ro : Blk w12 (w7.heap.size + 1) 51 #[.int .i64 z.per, .bool z.b0, .bool z.b1, .bool z.b2, .bool z.b3, .bool z.b4, .bool z.b5, .slice GA gn gc, .int .i64 z.ld, .int .i64 z.amb, .bool false, .bool false, .bool false, .bool false, .bool false, .bool false, .bool z.de, .bool z.nb] := hw ▸ ((((((ro.set_ 10 _).set_ 11 _).set_ 12 _).set_ 13 _).set_ 14 _).set_ 15 _)
  replace HB : Below w.heap.size w w12 := hw ▸ ((((((HB.setCell (by simp <;> omega) _).setCell (by simp <;> omega) _).setCell (by simp <;> omega) _).setCell (by simp <;> omega) _).setCell (by simp <;> omega) _).setCell (by simp <;> omega) _)
  replace HS : Below w7.heap.size w7 w12 := hw ▸ ((((((HS.setCell (by simp <;> omega) _).setCell (by simp <;> omega) _).setCell (by simp <;> omega) _).setCell (by simp <;> omega) _).setCell (by simp <;> omega) _).setCell (by simp <;> omega) _)
  simp only [hw]
  clear hw
  clear roc10 roc11 roc12 roc13 roc14 roc15 fr10 fr11 fr12 fr13 fr14 fr15 nrc mrc nrs mrs nri mri nrt mrt qrc qrs qri qrt qro
  have roc0 := ro.cell 0
  have roc1 := ro.cell 1
  have roc2 := ro.cell 2
  have roc3 := ro.cell 3
  have roc4 := ro.cell 4
  have roc5 := ro.cell 5
  have roc6 := ro.cell 6
  have roc7 := ro.cell 7
  have ric0 := ri.cell 0
  have fr0 := ro.frozen 0
  have fr1 := ro.frozen 1
  have fr2 := ro.frozen 2
  have fr3 := ro.frozen 3
  have fr4 := ro.frozen 4
  have fr5 := ro.frozen 5
  have fr6 := ro.frozen 6
  have fr7 := ro.frozen 7
  have qrc := Qrc.out
  have qrs := Qrs.out
  have qri := Qri.out
  have qrt := Qrt.out
  have qro := Qro.out
  have nrc : ¬ w.heap.size = w7.heap.size + 1 := by omega
  have mrc : ¬ w7.heap.size + 1 = w.heap.size := by omega
  have nrs : ¬ w.heap.size + 1 = w7.heap.size + 1 := by omega
  have mrs : ¬ w7.heap.size + 1 = w.heap.size + 1 := by omega
  have nri : ¬ w.heap.size + 1 + 1 = w7.heap.size + 1 := by omega
  have mri : ¬ w7.heap.size + 1 = w.heap.size + 1 + 1 := by omega
  have nrt : ¬ w7.heap.size = w7.heap.size + 1 := by omega
  have mrt : ¬ w7.heap.size + 1 = w7.heap.size := by omega
  clear qrc qrs qri qrt qro
  go_upto_region 10 with (fail)
  have qrc := Qrc.out
  have qrs := Qrs.out
  have qri := Qri.out
  have qrt := Qrt.out
  have qro := Qro.out
  obtain ⟨w13, hw⟩ : ∃ W, ((((((((w12.setCell ⟨w7.heap.size + 1, 0, none⟩ (.int .i64 z.per)).setCell ⟨w7.heap.size + 1, 1, none⟩ (.bool false)).setCell ⟨w7.heap.size + 1, 2, none⟩ (.bool false)).setCell ⟨w7.heap.size + 1, 3, none⟩ (.bool false)).setCell ⟨w7.heap.size + 1, 4, none⟩ (.bool false)).setCell ⟨w7.heap.size + 1, 5, none⟩ (.bool false)).setCell ⟨w7.heap.size + 1, 6, none⟩ (.bool false)).setCell ⟨w7.heap.size + 1, 7, none⟩ (.slice none 0 0)) = W := ⟨_, rfl⟩
  replace rc : Blk w13 (w.heap.size) 35 #[.int .i64 P.m.r, .int .i64 P.m.m, .slice X.A1 X.n1 X.c1, .slice X.A2 X.n2 X.c2, .slice X.A3 X.n3 X.c3, .slice X.A4 X.n4 X.c4, .int .i64 P.m.p, .int .i64 P.m.s, .int .i64 P.m.f, .int .i64 P.l.num, .int .i64 P.l.den, .int .i64 P.l.sup, .int .i64 P.l.fed, .int .i64 P.l.ohm, .int .i64 P.l.bon, .int .i64 P.l.boff, .int .i64 P.l.bohm, .int .i64 P.g, .int .i64 P.d, .int .i64 P.y, .slice X.B1 X.m1 X.d1, .slice X.B2 X.m2 X.d2, .slice X.B3 X.m3 X.d3, .int .i64 P.wi, .int .i64 P.sw] := hw ▸ ((((((((rc.far (by simp <;> omega) _).far (by simp <;> omega) _).far (by simp <;> omega) _).far (by simp <;> omega) _).far (by simp <;> omega) _).far (by simp <;> omega) _).far (by simp <;> omega) _).far (by simp <;> omega) _)
  replace rs : Blk w13 (w.heap.size + 1) 45 #[.int .i64 s.fd, .int .i64 s.fq, .int .i64 s.v, .bool s.b, .int .i64 s.po, .int .i64 s.sp, .slice YA yn yc, .int .i64 s.tn] := hw ▸ ((((((((rs.far (by simp <;> omega) _).far (by simp <;> omega) _).far (by simp <;> omega) _).far (by simp <;> omega) _).far (by simp <;> omega) _).far (by simp <;> omega) _).far (by simp <;> omega) _).far (by simp <;> omega) _)
  replace ri : Blk w13 (w.heap.size + 1 + 1) 51 #[.int .i64 z.per, .bool z.b0, .bool z.b1, .bool z.b2, .bool z.b3, .bool z.b4, .bool z.b5, .slice GA gn gc, .int .i64 z.ld, .int .i64 z.amb, .bool true, .bool true, .bool true, .bool true, .bool true, .bool true, .bool z.de, .bool z.nb] := hw ▸ ((((((((ri.far (by simp <;> omega) _).far (by simp <;> omega) _).far (by simp <;> omega) _).far (by simp <;> omega) _).far (by simp <;> omega) _).far (by simp <;> omega) _).far (by simp <;> omega) _).far (by simp <;> omega) _)
  replace rt : Blk w13 (w7.heap.size) 45 #[.int .i64 nx.fd, .int .i64 nx.fq, .int .i64 nx.v, .bool nx.b, .int .i64 nx.po, .int .i64 nx.sp, .slice A 3 ca, .int .i64 nx.tn] := hw ▸ ((((((((rt.far (by simp <;> omega) _).far (by simp <;> omega) _).far (by simp <;> omega) _).far (by simp <;> omega) _).far (by simp <;> omega) _).far (by simp <;> omega) _).far (by simp <;> omega) _).far (by simp <;> omega) _)
  replace ro : Blk w13 (w7.heap.size + 1) 51 #[.int .i64 z.per, .bool false, .bool false, .bool false, .bool false, .bool false, .bool false, .slice none 0 0, .int .i64 z.ld, .int .i64 z.amb, .bool false, .bool false, .bool false, .bool false, .bool false, .bool false, .bool z.de, .bool z.nb] := hw ▸ ((((((((ro.set_ 0 _).set_ 1 _).set_ 2 _).set_ 3 _).set_ 4 _).set_ 5 _).set_ 6 _).set_ 7 _)
  replace HB : Below w.heap.size w w13 := hw ▸ ((((((((HB.setCell (by simp <;> omega) _).setCell (by simp <;> omega) _).setCell (by simp <;> omega) _).setCell (by simp <;> omega) _).setCell (by simp <;> omega) _).setCell (by simp <;> omega) _).setCell (by simp <;> omega) _).setCell (by simp <;> omega) _)
  replace HS : Below w7.heap.size w7 w13 := hw ▸ ((((((((HS.setCell (by simp <;> omega) _).setCell (by simp <;> omega) _).setCell (by simp <;> omega) _).setCell (by simp <;> omega) _).setCell (by simp <;> omega) _).setCell (by simp <;> omega) _).setCell (by simp <;> omega) _).setCell (by simp <;> omega) _)
  simp only [hw]
  clear hw
  clear roc0 roc1 roc2 roc3 roc4 roc5 roc6 roc7 ric0 fr0 fr1 fr2 fr3 fr4 fr5 fr6 fr7 nrc mrc nrs mrs nri mri nrt mrt qrc qrs qri qrt qro
  go_wp2_with (first | (refine wpList_load_row rfl 35 _ rfl (w.heap.size) rfl _ _ _ _ rc Try.underlying35 rfl (by kernel_rfl) ?_) | (refine wpList_load_row rfl 45 _ rfl (w.heap.size + 1) rfl _ _ _ _ rs Try.underlying45 rfl (by kernel_rfl) ?_) | (refine wpList_load_row rfl 51 _ rfl (w7.heap.size + 1) rfl _ _ _ _ ro Try.underlying51 rfl (by kernel_rfl) ?_))
  with_reducible refine ((unhide K3) _ ((L.below HB).more HB.size) ((SY.below HB).more HB.size)).mono ?_
  rintro e w14 ⟨⟨B, cb, rfl, SB2, fB⟩, hb⟩
  replace rc := rc.below hb rc.lt
  replace rs := rs.below hb rs.lt
  replace ri := ri.below hb ri.lt
  replace rt := rt.below hb rt.lt
  replace ro := ro.below hb ro.lt
  replace HB := HB.trans (hb.mono HB.size)
  replace HS := HS.trans (hb.mono HS.size)
  clear hb
  clear fB
  have HT := Below.refl w14.heap.size w14
  obtain ⟨w15, eW15, sW15, ru, hb⟩ := box w14 #[.int .i64 0, .int .i64 0, .int .i64 0, .bool false, .int .i64 0, .int .i64 0, .slice none 0 0, .int .i64 0] 45 (g := w14.heap.size) rfl HB (by have := HB.size; omega)
  have Qru : Hid (w.heap.size ≤ w14.heap.size ∧ w7.heap.size ≤ w14.heap.size ∧ w14.heap.size ≤ w14.heap.size ∧ w.heap.size < w14.heap.size ∧ w.heap.size + 1 < w14.heap.size ∧ w.heap.size + 1 + 1 < w14.heap.size ∧ w7.heap.size < w14.heap.size ∧ w7.heap.size + 1 < w14.heap.size) := Lib.hid ⟨by have := HB.size; omega, by have := HS.size; omega, by have := HT.size; omega, by have := rc.lt; omega, by have := rs.lt; omega, by have := ri.lt; omega, by have := rt.lt; omega, by have := ro.lt; omega⟩
  replace rc := rc.al eW15
  replace rs := rs.al eW15
  replace ri := ri.al eW15
  replace rt := rt.al eW15
  replace ro := ro.al eW15
  replace HS : Below w7.heap.size w7 w15 := eW15 ▸ HS.alloc HS.size _
  replace HT : Below w14.heap.size w14 w15 := eW15 ▸ HT.alloc HT.size _
  replace HB := hb
  clear hb
  have qrc := Qrc.out
  have qrs := Qrs.out
  have qri := Qri.out
  have qrt := Qrt.out
  have qro := Qro.out
  have qru := Qru.out
  have uHS := HS.size
  have uHT := HT.size
  have ruo15 := ru
  obtain ⟨w16, eW16, sW16, hr, hb⟩ := rowX ru #[.int .i64 nx.fd, .int .i64 nx.fq, .int .i64 nx.v, .bool nx.b, .int .i64 nx.po, .int .i64 nx.sp, .slice B 3 cb, .int .i64 nx.tn] (n := w14.heap.size + 1) sW15 HB (by omega)
  replace rc := rc.rowTo eW16 (by omega)
  replace rs := rs.rowTo eW16 (by omega)
  replace ri := ri.rowTo eW16 (by omega)
  replace rt := rt.rowTo eW16 (by omega)
  replace ro := ro.rowTo eW16 (by omega)
  replace ru := hr
  have HSo := HS
  replace HS : Below w7.heap.size w7 w16 := eW16 ▸ below_row HS (by omega)
  have HTo := HT
  replace HT : Below w14.heap.size w14 w16 := eW16 ▸ below_row HT (by omega)
  replace HB := hb
  clear hb hr qrc qrs qri qrt qro qru uHS uHT
  have rcc0 := rc.cell 0
  have rcc1 := rc.cell 1
  have rcc2 := rc.cell 2
  have rcc3 := rc.cell 3
  have rcc4 := rc.cell 4
  have rcc5 := rc.cell 5
  have rcc6 := rc.cell 6
  have rcc7 := rc.cell 7
  have rcc8 := rc.cell 8
  have rsc0 := rs.cell 0
  have rsc1 := rs.cell 1
  go_wp2_with (first | (refine wpList_store_row rfl 45 _ _ rfl (w14.heap.size) #[.int .i64 nx.fd, .int .i64 nx.fq, .int .i64 nx.v, .bool nx.b, .int .i64 nx.po, .int .i64 nx.sp, .slice B 3 cb, .int .i64 nx.tn] rfl rfl _ _ ruo15 (by kernel_rfl) (by kernel_rfl) (by kernel_rfl) ?_))
  with_reducible refine ((unhide K4) _ ((L.below HB).more HB.size)).mono ?_
  rintro e w17 ⟨rfl, hb⟩
  replace rc := rc.below hb rc.lt
  replace rs := rs.below hb rs.lt
  replace ri := ri.below hb ri.lt
  replace rt := rt.below hb rt.lt
  replace ro := ro.below hb ro.lt
  replace ru := ru.below hb ru.lt
  replace HB := HB.trans (hb.mono HB.size)
  replace HS := HS.trans (hb.mono HS.size)
  replace HT := HT.trans (hb.mono HT.size)
  clear hb
  clear ruo15 rcc0 rcc1 rcc2 rcc3 rcc4 rcc5 rcc6 rcc7 rcc8 rsc0 rsc1 eW15 sW15 eW16 sW16
  obtain ⟨w18, eW18, sW18, d1, hb⟩ := box w17 #[.int .i64 0, .int .i64 0] 37 (g := w17.heap.size) rfl HB (by have := HB.size; omega)
  have Qd1 : Hid (w.heap.size ≤ w17.heap.size ∧ w7.heap.size ≤ w17.heap.size ∧ w14.heap.size ≤ w17.heap.size ∧ w.heap.size < w17.heap.size ∧ w.heap.size + 1 < w17.heap.size ∧ w.heap.size + 1 + 1 < w17.heap.size ∧ w7.heap.size < w17.heap.size ∧ w7.heap.size + 1 < w17.heap.size ∧ w14.heap.size < w17.heap.size) := Lib.hid ⟨by have := HB.size; omega, by have := HS.size; omega, by have := HT.size; omega, by have := rc.lt; omega, by have := rs.lt; omega, by have := ri.lt; omega, by have := rt.lt; omega, by have := ro.lt; omega, by have := ru.lt; omega⟩
  replace rc := rc.al eW18
  replace rs := rs.al eW18
  replace ri := ri.al eW18
  replace rt := rt.al eW18
  replace ro := ro.al eW18
  replace ru := ru.al eW18
  replace HS : Below w7.heap.size w7 w18 := eW18 ▸ HS.alloc HS.size _
  replace HT : Below w14.heap.size w14 w18 := eW18 ▸ HT.alloc HT.size _
  replace HB := hb
  clear hb
  have qrc := Qrc.out
  have qrs := Qrs.out
  have qri := Qri.out
  have qrt := Qrt.out
  have qro := Qro.out
  have qru := Qru.out
  have qd1 := Qd1.out
  have uHS := HS.size
  have uHT := HT.size
  have d1o18 := d1
  obtain ⟨w19, eW19, sW19, hr, hb⟩ := rowX d1 #[.int .i64 i1, .int .i64 i2] (n := w17.heap.size + 1) sW18 HB (by omega)
  replace rc := rc.rowTo eW19 (by omega)
  replace rs := rs.rowTo eW19 (by omega)
  replace ri := ri.rowTo eW19 (by omega)
  replace rt := rt.rowTo eW19 (by omega)
  replace ro := ro.rowTo eW19 (by omega)
  replace ru := ru.rowTo eW19 (by omega)
  replace d1 := hr
  have HSo := HS
  replace HS : Below w7.heap.size w7 w19 := eW19 ▸ below_row HS (by omega)
  have HTo := HT
  replace HT : Below w14.heap.size w14 w19 := eW19 ▸ below_row HT (by omega)
  replace HB := hb
  clear hb hr qrc qrs qri qrt qro qru qd1 uHS uHT
  have rcc0 := rc.cell 0
  have rcc1 := rc.cell 1
  have rcc2 := rc.cell 2
  have rcc3 := rc.cell 3
  have rcc4 := rc.cell 4
  have rcc5 := rc.cell 5
  have rcc6 := rc.cell 6
  have rcc7 := rc.cell 7
  have rcc8 := rc.cell 8
  have rtc0 := rt.cell 0
  have rtc1 := rt.cell 1
  go_wp2_with (first | (refine wpList_store_row rfl 37 _ _ rfl (w17.heap.size) #[.int .i64 i1, .int .i64 i2] rfl rfl _ _ d1o18 (by kernel_rfl) (by kernel_rfl) (by kernel_rfl) ?_))
  with_reducible refine ((unhide K5) _ ((L.below HB).more HB.size)).mono ?_
  rintro e w20 ⟨rfl, hb⟩
  replace rc := rc.below hb rc.lt
  replace rs := rs.below hb rs.lt
  replace ri := ri.below hb ri.lt
  replace rt := rt.below hb rt.lt
  replace ro := ro.below hb ro.lt
  replace ru := ru.below hb ru.lt
  replace d1 := d1.below hb d1.lt
  replace HB := HB.trans (hb.mono HB.size)
  replace HS := HS.trans (hb.mono HS.size)
  replace HT := HT.trans (hb.mono HT.size)
  clear hb
  clear d1o18 rcc0 rcc1 rcc2 rcc3 rcc4 rcc5 rcc6 rcc7 rcc8 rtc0 rtc1 eW18 sW18 eW19 sW19
  obtain ⟨w21, eW21, sW21, d2, hb⟩ := box w20 #[.int .i64 0, .int .i64 0] 37 (g := w20.heap.size) rfl HB (by have := HB.size; omega)
  have Qd2 : Hid (w.heap.size ≤ w20.heap.size ∧ w7.heap.size ≤ w20.heap.size ∧ w14.heap.size ≤ w20.heap.size ∧ w.heap.size < w20.heap.size ∧ w.heap.size + 1 < w20.heap.size ∧ w.heap.size + 1 + 1 < w20.heap.size ∧ w7.heap.size < w20.heap.size ∧ w7.heap.size + 1 < w20.heap.size ∧ w14.heap.size < w20.heap.size ∧ w17.heap.size < w20.heap.size) := Lib.hid ⟨by have := HB.size; omega, by have := HS.size; omega, by have := HT.size; omega, by have := rc.lt; omega, by have := rs.lt; omega, by have := ri.lt; omega, by have := rt.lt; omega, by have := ro.lt; omega, by have := ru.lt; omega, by have := d1.lt; omega⟩
  replace rc := rc.al eW21
  replace rs := rs.al eW21
  replace ri := ri.al eW21
  replace rt := rt.al eW21
  replace ro := ro.al eW21
  replace ru := ru.al eW21
  replace d1 := d1.al eW21
  replace HS : Below w7.heap.size w7 w21 := eW21 ▸ HS.alloc HS.size _
  replace HT : Below w14.heap.size w14 w21 := eW21 ▸ HT.alloc HT.size _
  replace HB := hb
  clear hb
  have qrc := Qrc.out
  have qrs := Qrs.out
  have qri := Qri.out
  have qrt := Qrt.out
  have qro := Qro.out
  have qru := Qru.out
  have qd1 := Qd1.out
  have qd2 := Qd2.out
  have uHS := HS.size
  have uHT := HT.size
  have d2o21 := d2
  obtain ⟨w22, eW22, sW22, hr, hb⟩ := rowX d2 #[.int .i64 j1, .int .i64 j2] (n := w20.heap.size + 1) sW21 HB (by omega)
  replace rc := rc.rowTo eW22 (by omega)
  replace rs := rs.rowTo eW22 (by omega)
  replace ri := ri.rowTo eW22 (by omega)
  replace rt := rt.rowTo eW22 (by omega)
  replace ro := ro.rowTo eW22 (by omega)
  replace ru := ru.rowTo eW22 (by omega)
  replace d1 := d1.rowTo eW22 (by omega)
  replace d2 := hr
  have HSo := HS
  replace HS : Below w7.heap.size w7 w22 := eW22 ▸ below_row HS (by omega)
  have HTo := HT
  replace HT : Below w14.heap.size w14 w22 := eW22 ▸ below_row HT (by omega)
  replace HB := hb
  clear hb hr qrc qrs qri qrt qro qru qd1 qd2 uHS uHT
  go_wp2_with (first | (refine wpList_load_row rfl 45 _ rfl (w7.heap.size) rfl _ _ _ _ rt Try.underlying45 rfl (by kernel_rfl) ?_) | (refine wpList_load_rowG 45 _ rfl (by go_simp) (w7.heap.size) rfl _ _ _ _ rt Try.underlying45 rfl (by kernel_rfl) ?_) | (refine wpList_load_row rfl 45 _ rfl (w14.heap.size) rfl _ _ _ _ ru Try.underlying45 rfl (by kernel_rfl) ?_) | (refine wpList_load_rowG 45 _ rfl (by go_simp) (w14.heap.size) rfl _ _ _ _ ru Try.underlying45 rfl (by kernel_rfl) ?_) | (refine wpList_store_row rfl 37 _ _ rfl (w20.heap.size) #[.int .i64 j1, .int .i64 j2] rfl rfl _ _ d2o21 (by kernel_rfl) (by kernel_rfl) (by kernel_rfl) ?_))
  with_reducible refine ((unhide K6) _ A B ca cb ((SA.below HS).more HS.size) ((SB2.below HT).more HT.size)).mono ?_
  rintro e w23 ⟨rfl, hb⟩
  replace rc := rc.below hb rc.lt
  replace rs := rs.below hb rs.lt
  replace ri := ri.below hb ri.lt
  replace rt := rt.below hb rt.lt
  replace ro := ro.below hb ro.lt
  replace ru := ru.below hb ru.lt
  replace d1 := d1.below hb d1.lt
  replace d2 := d2.below hb d2.lt
  replace HB := HB.trans (hb.mono HB.size)
  replace HS := HS.trans (hb.mono HS.size)
  replace HT := HT.trans (hb.mono HT.size)
  clear hb
  clear d2o21 eW21 sW21 eW22 sW22
  have d1c0 := d1.cell 0
  have d1c1 := d1.cell 1
  have d2c0 := d2.cell 0
  have d2c1 := d2.cell 1
  go_wp2_with fail
  go_ret
  exact ⟨rfl, HB⟩
theorem fades_walk (P : Pc) (X : Pa) (s : Ps) (YA : Option Addr) (yn yc : Nat) (z : Pi) (GA : Option Addr) (gn gc : Nat) (w : World) (L : Py w w.heap.size P X) (SY : Sl w w.heap.size 1 YA (rows s.h)) (ey : yn = s.h.length) (SG : Sl w w.heap.size 3 GA (z.es.map I.Ed.row)) (eg : gn = z.es.length) :
    Calls Try.prog 3 #[.agg #[.int .i64 P.m.r, .int .i64 P.m.m, .slice X.A1 X.n1 X.c1, .slice X.A2 X.n2 X.c2, .slice X.A3 X.n3 X.c3, .slice X.A4 X.n4 X.c4, .int .i64 P.m.p, .int .i64 P.m.s, .int .i64 P.m.f, .int .i64 P.l.num, .int .i64 P.l.den, .int .i64 P.l.sup, .int .i64 P.l.fed, .int .i64 P.l.ohm, .int .i64 P.l.bon, .int .i64 P.l.boff, .int .i64 P.l.bohm, .int .i64 P.g, .int .i64 P.d, .int .i64 P.y, .slice X.B1 X.m1 X.d1, .slice X.B2 X.m2 X.d2, .slice X.B3 X.m3 X.d3, .int .i64 P.wi, .int .i64 P.sw], .agg #[.int .i64 s.fd, .int .i64 s.fq, .int .i64 s.v, .bool s.b, .int .i64 s.po, .int .i64 s.sp, .slice YA yn yc, .int .i64 s.tn], .agg #[.int .i64 z.per, .bool z.b0, .bool z.b1, .bool z.b2, .bool z.b3, .bool z.b4, .bool z.b5, .slice GA gn gc, .int .i64 z.ld, .int .i64 z.amb, .bool z.k0, .bool z.k1, .bool z.k2, .bool z.k3, .bool z.k4, .bool z.k5, .bool z.de, .bool z.nb]] w fun e w' => e = .returned (.bool true) ∧ Below w.heap.size w w' := by
  cases hl : lgP X yn gn with
  | true => exact fades_large P X s YA yn yc z GA gn gc w hl
  | false =>
    by_cases hc : stCode P s (zBr z) = 0
    · exact fades_ok P X s YA yn yc z GA gn gc w L SY ey SG eg hl hc
    · exact fades_bad P X s YA yn yc z GA gn gc w L ey SG eg hl hc
end Go.Proofs.Ytpfkiohknpeifaa
