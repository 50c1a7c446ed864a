/- The walk of the statement PlantTurns. -/
import Derived.Test.YtpfkiohknpeifaaPAwake
import Derived.Test.YtpfkiohknpeifaaPLarge
import Derived.Test.YtpfkiohknpeifaaPLaws
namespace Go.Proofs.Ytpfkiohknpeifaa
open Go.RowKit
set_option maxRecDepth 100000 in
set_option maxHeartbeats 6400000 in
theorem turns_large (P : Pc) (X : Pa) (s : Ps) (YA : Option Addr) (yn yc : Nat) (z : Pi) (GA : Option Addr) (gn gc : Nat) (w : World) (hl : lgP X yn gn = true) :
    Calls Try.prog 5 #[.agg #[.int .i64 P.m.r, .int .i64 P.m.m, .slice X.A1 X.n1 X.c1, .slice X.A2 X.n2 X.c2, .slice X.A3 X.n3 X.c3, .slice X.A4 X.n4 X.c4, .int .i64 P.m.p, .int .i64 P.m.s, .int .i64 P.m.f, .int .i64 P.l.num, .int .i64 P.l.den, .int .i64 P.l.sup, .int .i64 P.l.fed, .int .i64 P.l.ohm, .int .i64 P.l.bon, .int .i64 P.l.boff, .int .i64 P.l.bohm, .int .i64 P.g, .int .i64 P.d, .int .i64 P.y, .slice X.B1 X.m1 X.d1, .slice X.B2 X.m2 X.d2, .slice X.B3 X.m3 X.d3, .int .i64 P.wi, .int .i64 P.sw], .agg #[.int .i64 s.fd, .int .i64 s.fq, .int .i64 s.v, .bool s.b, .int .i64 s.po, .int .i64 s.sp, .slice YA yn yc, .int .i64 s.tn], .agg #[.int .i64 z.per, .bool z.b0, .bool z.b1, .bool z.b2, .bool z.b3, .bool z.b4, .bool z.b5, .slice GA gn gc, .int .i64 z.ld, .int .i64 z.amb, .bool z.k0, .bool z.k1, .bool z.k2, .bool z.k3, .bool z.k4, .bool z.k5, .bool z.de, .bool z.nb]] w fun e w' => e = .returned (.bool true) ∧ Below w.heap.size w w' := by
  have kl := fun W => large_walkP P X s YA yn yc z GA gn gc W
  simp only [hl] at kl
  have KL := hide kl
  clear kl
  clear hl
  have HB := Below.refl w.heap.size w
  obtain ⟨w1, eW1, sW1, rc, hb⟩ := box w #[.int .i64 P.m.r, .int .i64 P.m.m, .slice X.A1 X.n1 X.c1, .slice X.A2 X.n2 X.c2, .slice X.A3 X.n3 X.c3, .slice X.A4 X.n4 X.c4, .int .i64 P.m.p, .int .i64 P.m.s, .int .i64 P.m.f, .int .i64 P.l.num, .int .i64 P.l.den, .int .i64 P.l.sup, .int .i64 P.l.fed, .int .i64 P.l.ohm, .int .i64 P.l.bon, .int .i64 P.l.boff, .int .i64 P.l.bohm, .int .i64 P.g, .int .i64 P.d, .int .i64 P.y, .slice X.B1 X.m1 X.d1, .slice X.B2 X.m2 X.d2, .slice X.B3 X.m3 X.d3, .int .i64 P.wi, .int .i64 P.sw] 35 (g := w.heap.size) rfl HB (by have := HB.size; omega)
  have Qrc : Hid (w.heap.size ≤ w.heap.size) := Lib.hid (by have := HB.size; omega)
  replace HB := hb
  clear hb
  obtain ⟨w2, eW2, sW2, rs, hb⟩ := box w1 #[.int .i64 s.fd, .int .i64 s.fq, .int .i64 s.v, .bool s.b, .int .i64 s.po, .int .i64 s.sp, .slice YA yn yc, .int .i64 s.tn] 45 (g := w.heap.size + 1) sW1 HB (by have := HB.size; omega)
  have Qrs : Hid (w.heap.size ≤ w.heap.size + 1 ∧ w.heap.size < w.heap.size + 1) := Lib.hid ⟨by have := HB.size; omega, by have := rc.lt; omega⟩
  replace rc := rc.al eW2
  replace HB := hb
  clear hb
  obtain ⟨w3, eW3, sW3, ri, hb⟩ := box w2 #[.int .i64 z.per, .bool z.b0, .bool z.b1, .bool z.b2, .bool z.b3, .bool z.b4, .bool z.b5, .slice GA gn gc, .int .i64 z.ld, .int .i64 z.amb, .bool z.k0, .bool z.k1, .bool z.k2, .bool z.k3, .bool z.k4, .bool z.k5, .bool z.de, .bool z.nb] 51 (g := w.heap.size + 1 + 1) sW2 HB (by have := HB.size; omega)
  have Qri : Hid (w.heap.size ≤ w.heap.size + 1 + 1 ∧ w.heap.size < w.heap.size + 1 + 1 ∧ w.heap.size + 1 < w.heap.size + 1 + 1) := Lib.hid ⟨by have := HB.size; omega, by have := rc.lt; omega, by have := rs.lt; omega⟩
  replace rc := rc.al eW3
  replace rs := rs.al eW3
  replace HB := hb
  clear hb
  go_enter Try.func5, Try.ntmps5
  go_wp2_with fail
  with_reducible refine (awakeP_walk _).mono ?_
  rintro e w4 ⟨rfl, hb⟩
  replace rc := rc.below hb rc.lt
  replace rs := rs.below hb rs.lt
  replace ri := ri.below hb ri.lt
  replace HB := HB.trans (hb.mono HB.size)
  clear hb
  clear eW1 sW1 eW2 sW2 eW3 sW3
  go_wp2_with (first | (refine wpList_load_row rfl 35 _ rfl (w.heap.size) rfl _ _ _ _ rc Try.underlying35 rfl (by kernel_rfl) ?_) | (refine wpList_load_rowG 35 _ rfl (by go_simp) (w.heap.size) rfl _ _ _ _ rc Try.underlying35 rfl (by kernel_rfl) ?_) | (refine wpList_load_row rfl 45 _ rfl (w.heap.size + 1) rfl _ _ _ _ rs Try.underlying45 rfl (by kernel_rfl) ?_) | (refine wpList_load_rowG 45 _ rfl (by go_simp) (w.heap.size + 1) rfl _ _ _ _ rs Try.underlying45 rfl (by kernel_rfl) ?_) | (refine wpList_load_row rfl 51 _ rfl (w.heap.size + 1 + 1) rfl _ _ _ _ ri Try.underlying51 rfl (by kernel_rfl) ?_) | (refine wpList_load_rowG 51 _ rfl (by go_simp) (w.heap.size + 1 + 1) rfl _ _ _ _ ri Try.underlying51 rfl (by kernel_rfl) ?_))
  with_reducible refine ((unhide KL) _).mono ?_
  rintro e w5 ⟨rfl, hb⟩
  replace rc := rc.below hb rc.lt
  replace rs := rs.below hb rs.lt
  replace ri := ri.below hb ri.lt
  replace HB := HB.trans (hb.mono HB.size)
  clear hb
  go_wp2_with fail
  with_reducible refine (awakeP_walk _).mono ?_
  rintro e w6 ⟨rfl, hb⟩
  replace rc := rc.below hb rc.lt
  replace rs := rs.below hb rs.lt
  replace ri := ri.below hb ri.lt
  replace HB := HB.trans (hb.mono HB.size)
  clear hb
  go_wp2
  go_ret
  exact ⟨rfl, HB⟩
set_option maxRecDepth 100000 in
set_option maxHeartbeats 6400000 in
theorem turns_bad (P : Pc) (X : Pa) (s : Ps) (YA : Option Addr) (yn yc : Nat) (z : Pi) (GA : Option Addr) (gn gc : Nat) (w : World) (L : Py w w.heap.size P X) (ey : yn = s.h.length) (SG : Sl w w.heap.size 3 GA (z.es.map I.Ed.row)) (eg : gn = z.es.length) (hl : lgP X yn gn = false) (hc : stCode P s z ≠ 0) :
    Calls Try.prog 5 #[.agg #[.int .i64 P.m.r, .int .i64 P.m.m, .slice X.A1 X.n1 X.c1, .slice X.A2 X.n2 X.c2, .slice X.A3 X.n3 X.c3, .slice X.A4 X.n4 X.c4, .int .i64 P.m.p, .int .i64 P.m.s, .int .i64 P.m.f, .int .i64 P.l.num, .int .i64 P.l.den, .int .i64 P.l.sup, .int .i64 P.l.fed, .int .i64 P.l.ohm, .int .i64 P.l.bon, .int .i64 P.l.boff, .int .i64 P.l.bohm, .int .i64 P.g, .int .i64 P.d, .int .i64 P.y, .slice X.B1 X.m1 X.d1, .slice X.B2 X.m2 X.d2, .slice X.B3 X.m3 X.d3, .int .i64 P.wi, .int .i64 P.sw], .agg #[.int .i64 s.fd, .int .i64 s.fq, .int .i64 s.v, .bool s.b, .int .i64 s.po, .int .i64 s.sp, .slice YA yn yc, .int .i64 s.tn], .agg #[.int .i64 z.per, .bool z.b0, .bool z.b1, .bool z.b2, .bool z.b3, .bool z.b4, .bool z.b5, .slice GA gn gc, .int .i64 z.ld, .int .i64 z.amb, .bool z.k0, .bool z.k1, .bool z.k2, .bool z.k3, .bool z.k4, .bool z.k5, .bool z.de, .bool z.nb]] w fun e w' => e = .returned (.bool true) ∧ Below w.heap.size w w' := by
  have kl := fun W => large_walkP P X s YA yn yc z GA gn gc W
  simp only [hl] at kl
  have KL := hide kl
  clear kl
  have gm : gn ≤ 1000000 := by have := lgP_gn hl; omega
  have k2 := fun (W : World) (h : Py W W.heap.size P X) (hg : Sl W W.heap.size 3 GA (z.es.map I.Ed.row)) => pstepM_bad P X s YA yn yc z GA gn gc W h ey hg eg gm hc
  simp only [errV_ne hc] at k2
  have K2 := hide k2
  clear k2 hl hc ey eg gm
  have HB := Below.refl w.heap.size w
  obtain ⟨w1, eW1, sW1, rc, hb⟩ := box w #[.int .i64 P.m.r, .int .i64 P.m.m, .slice X.A1 X.n1 X.c1, .slice X.A2 X.n2 X.c2, .slice X.A3 X.n3 X.c3, .slice X.A4 X.n4 X.c4, .int .i64 P.m.p, .int .i64 P.m.s, .int .i64 P.m.f, .int .i64 P.l.num, .int .i64 P.l.den, .int .i64 P.l.sup, .int .i64 P.l.fed, .int .i64 P.l.ohm, .int .i64 P.l.bon, .int .i64 P.l.boff, .int .i64 P.l.bohm, .int .i64 P.g, .int .i64 P.d, .int .i64 P.y, .slice X.B1 X.m1 X.d1, .slice X.B2 X.m2 X.d2, .slice X.B3 X.m3 X.d3, .int .i64 P.wi, .int .i64 P.sw] 35 (g := w.heap.size) rfl HB (by have := HB.size; omega)
  have Qrc : Hid (w.heap.size ≤ w.heap.size) := Lib.hid (by have := HB.size; omega)
  replace HB := hb
  clear hb
  obtain ⟨w2, eW2, sW2, rs, hb⟩ := box w1 #[.int .i64 s.fd, .int .i64 s.fq, .int .i64 s.v, .bool s.b, .int .i64 s.po, .int .i64 s.sp, .slice YA yn yc, .int .i64 s.tn] 45 (g := w.heap.size + 1) sW1 HB (by have := HB.size; omega)
  have Qrs : Hid (w.heap.size ≤ w.heap.size + 1 ∧ w.heap.size < w.heap.size + 1) := Lib.hid ⟨by have := HB.size; omega, by have := rc.lt; omega⟩
  replace rc := rc.al eW2
  replace HB := hb
  clear hb
  obtain ⟨w3, eW3, sW3, ri, hb⟩ := box w2 #[.int .i64 z.per, .bool z.b0, .bool z.b1, .bool z.b2, .bool z.b3, .bool z.b4, .bool z.b5, .slice GA gn gc, .int .i64 z.ld, .int .i64 z.amb, .bool z.k0, .bool z.k1, .bool z.k2, .bool z.k3, .bool z.k4, .bool z.k5, .bool z.de, .bool z.nb] 51 (g := w.heap.size + 1 + 1) sW2 HB (by have := HB.size; omega)
  have Qri : Hid (w.heap.size ≤ w.heap.size + 1 + 1 ∧ w.heap.size < w.heap.size + 1 + 1 ∧ w.heap.size + 1 < w.heap.size + 1 + 1) := Lib.hid ⟨by have := HB.size; omega, by have := rc.lt; omega, by have := rs.lt; omega⟩
  replace rc := rc.al eW3
  replace rs := rs.al eW3
  replace HB := hb
  clear hb
  go_enter Try.func5, Try.ntmps5
  go_wp2_with fail
  with_reducible refine (awakeP_walk _).mono ?_
  rintro e w4 ⟨rfl, hb⟩
  replace rc := rc.below hb rc.lt
  replace rs := rs.below hb rs.lt
  replace ri := ri.below hb ri.lt
  replace HB := HB.trans (hb.mono HB.size)
  clear hb
  clear eW1 sW1 eW2 sW2 eW3 sW3
  go_wp2_with (first | (refine wpList_load_row rfl 35 _ rfl (w.heap.size) rfl _ _ _ _ rc Try.underlying35 rfl (by kernel_rfl) ?_) | (refine wpList_load_rowG 35 _ rfl (by go_simp) (w.heap.size) rfl _ _ _ _ rc Try.underlying35 rfl (by kernel_rfl) ?_) | (refine wpList_load_row rfl 45 _ rfl (w.heap.size + 1) rfl _ _ _ _ rs Try.underlying45 rfl (by kernel_rfl) ?_) | (refine wpList_load_rowG 45 _ rfl (by go_simp) (w.heap.size + 1) rfl _ _ _ _ rs Try.underlying45 rfl (by kernel_rfl) ?_) | (refine wpList_load_row rfl 51 _ rfl (w.heap.size + 1 + 1) rfl _ _ _ _ ri Try.underlying51 rfl (by kernel_rfl) ?_) | (refine wpList_load_rowG 51 _ rfl (by go_simp) (w.heap.size + 1 + 1) rfl _ _ _ _ ri Try.underlying51 rfl (by kernel_rfl) ?_))
  with_reducible refine ((unhide KL) _).mono ?_
  rintro e w5 ⟨rfl, hb⟩
  replace rc := rc.below hb rc.lt
  replace rs := rs.below hb rs.lt
  replace ri := ri.below hb ri.lt
  replace HB := HB.trans (hb.mono HB.size)
  clear hb
  go_wp2_with (first | (refine wpList_load_row rfl 35 _ rfl (w.heap.size) rfl _ _ _ _ rc Try.underlying35 rfl (by kernel_rfl) ?_) | (refine wpList_load_row rfl 45 _ rfl (w.heap.size + 1) rfl _ _ _ _ rs Try.underlying45 rfl (by kernel_rfl) ?_) | (refine wpList_load_row rfl 51 _ rfl (w.heap.size + 1 + 1) rfl _ _ _ _ ri Try.underlying51 rfl (by kernel_rfl) ?_))
  with_reducible refine ((unhide K2) _ ((L.below HB).more HB.size) ((SG.below HB).more HB.size)).mono ?_
  rintro e w6 ⟨rfl, hb⟩
  replace rc := rc.below hb rc.lt
  replace rs := rs.below hb rs.lt
  replace ri := ri.below hb ri.lt
  replace HB := HB.trans (hb.mono HB.size)
  clear hb
  obtain ⟨w7, eW7, sW7, rt, hb⟩ := box w6 #[.int .i64 0, .int .i64 0, .int .i64 0, .bool false, .int .i64 0, .int .i64 0, .slice none 0 0, .int .i64 0] 45 (g := w6.heap.size) rfl HB (by have := HB.size; omega)
  have Qrt : Hid (w.heap.size ≤ w6.heap.size ∧ w.heap.size < w6.heap.size ∧ w.heap.size + 1 < w6.heap.size ∧ w.heap.size + 1 + 1 < w6.heap.size) := Lib.hid ⟨by have := HB.size; omega, by have := rc.lt; omega, by have := rs.lt; omega, by have := ri.lt; omega⟩
  replace rc := rc.al eW7
  replace rs := rs.al eW7
  replace ri := ri.al eW7
  replace HB := hb
  clear hb
  have qrc := Qrc.out
  have qrs := Qrs.out
  have qri := Qri.out
  have qrt := Qrt.out
  have rto7 := rt
  obtain ⟨w8, eW8, sW8, hr, hb⟩ := rowX rt #[.int .i64 0, .int .i64 0, .int .i64 0, .bool false, .int .i64 0, .int .i64 0, .slice none 0 0, .int .i64 0] (n := w6.heap.size + 1) sW7 HB (by omega)
  replace rc := rc.rowTo eW8 (by omega)
  replace rs := rs.rowTo eW8 (by omega)
  replace ri := ri.rowTo eW8 (by omega)
  replace rt := hr
  replace HB := hb
  clear hb hr qrc qrs qri qrt
  go_wp2_with (first | (refine wpList_store_row rfl 45 _ _ rfl (w6.heap.size) #[.int .i64 0, .int .i64 0, .int .i64 0, .bool false, .int .i64 0, .int .i64 0, .slice none 0 0, .int .i64 0] rfl rfl _ _ rto7 (by kernel_rfl) (by kernel_rfl) (by kernel_rfl) ?_))
  go_ret
  exact ⟨rfl, HB⟩
set_option maxRecDepth 100000 in
set_option maxHeartbeats 6400000 in
theorem turns_ok (P : Pc) (X : Pa) (s : Ps) (YA : Option Addr) (yn yc : Nat) (z : Pi) (GA : Option Addr) (gn gc : Nat) (w : World) (L : Py w w.heap.size P X) (SY : Sl w w.heap.size 1 YA (rows s.h)) (ey : yn = s.h.length) (SG : Sl w w.heap.size 3 GA (z.es.map I.Ed.row)) (eg : gn = z.es.length) (hl : lgP X yn gn = false) (hc : stCode P s z = 0) :
    Calls Try.prog 5 #[.agg #[.int .i64 P.m.r, .int .i64 P.m.m, .slice X.A1 X.n1 X.c1, .slice X.A2 X.n2 X.c2, .slice X.A3 X.n3 X.c3, .slice X.A4 X.n4 X.c4, .int .i64 P.m.p, .int .i64 P.m.s, .int .i64 P.m.f, .int .i64 P.l.num, .int .i64 P.l.den, .int .i64 P.l.sup, .int .i64 P.l.fed, .int .i64 P.l.ohm, .int .i64 P.l.bon, .int .i64 P.l.boff, .int .i64 P.l.bohm, .int .i64 P.g, .int .i64 P.d, .int .i64 P.y, .slice X.B1 X.m1 X.d1, .slice X.B2 X.m2 X.d2, .slice X.B3 X.m3 X.d3, .int .i64 P.wi, .int .i64 P.sw], .agg #[.int .i64 s.fd, .int .i64 s.fq, .int .i64 s.v, .bool s.b, .int .i64 s.po, .int .i64 s.sp, .slice YA yn yc, .int .i64 s.tn], .agg #[.int .i64 z.per, .bool z.b0, .bool z.b1, .bool z.b2, .bool z.b3, .bool z.b4, .bool z.b5, .slice GA gn gc, .int .i64 z.ld, .int .i64 z.amb, .bool z.k0, .bool z.k1, .bool z.k2, .bool z.k3, .bool z.k4, .bool z.k5, .bool z.de, .bool z.nb]] w fun e w' => e = .returned (.bool true) ∧ Below w.heap.size w w' := by
  have kl := fun W => large_walkP P X s YA yn yc z GA gn gc W
  simp only [hl] at kl
  have KL := hide kl
  clear kl
  obtain ⟨hp, hi⟩ := st_ok hc
  have gm : gn ≤ 1000000 := by have := lgP_gn hl; omega
  have y3 : yn = 3 := by rw [ey]; exact hi.n
  have k2 := fun (W : World) (h : Py W W.heap.size P X) (hy : Sl W W.heap.size 1 YA (rows s.h)) (hg : Sl W W.heap.size 3 GA (z.es.map I.Ed.row)) => pstepM_k P X s YA yn yc z GA gn gc W h hy ey hg eg gm hc
  have k3 := fun (W : World) (h : Py W W.heap.size P X) (hy : Sl W W.heap.size 1 YA (rows s.h)) => poutM_ok P X s YA yn yc W h hy ey hp hi.n
  have k4 := fun (W : World) (A : Option Addr) (c : Nat) (h : Py W W.heap.size P X) (hy : Sl W W.heap.size 1 A (rows (pxS P s z).h)) => poutM_ok P X (pxS P s z) A 3 c W h hy pxS_len.symm hp pxS_len
  have hv : (pxS P s z).sp = nvV P.g P.d P.y s.sp (pxT P s z) z.ld := rfl
  have hq : (pxS P s z).po = wrapP (s.po + (pxS P s z).sp) := rfl
  have ht : (pxS P s z).tn = difA (angP (pxS P s z).po) (angP s.po) := rfl
  have bv := nvV_bd P.g P.d P.y s.sp (pxT P s z) z.ld
  rw [← hv] at bv
  have law := turn_law s.po (pxS P s z).sp bv.1 bv.2
  rw [← hq, ← ht] at law
  have hcl : clipI (pxS P s z).sp (-1073741824) 1073741824 = (pxS P s z).sp := by unfold clipI; rw [if_neg (by omega), if_neg (by omega)]
  simp only [hcl] at k4
  have b1 := wrapP_bd s.po
  have b2 := wrapP_bd (pxS P s z).po
  have b3 := angP_bd s.po
  have b4 := angP_bd (pxS P s z).po
  obtain ⟨w1', g1⟩ : ∃ x, wrapP s.po = x := ⟨_, rfl⟩
  obtain ⟨w2', g2⟩ : ∃ x, wrapP (pxS P s z).po = x := ⟨_, rfl⟩
  obtain ⟨x1, g3⟩ : ∃ x, angP s.po = x := ⟨_, rfl⟩
  obtain ⟨x2, g4⟩ : ∃ x, angP (pxS P s z).po = x := ⟨_, rfl⟩
  obtain ⟨cl, g5⟩ : ∃ x, clipI s.sp (-1073741824) 1073741824 = x := ⟨_, rfl⟩
  obtain ⟨v1, g6⟩ : ∃ x, clipI s.v 0 1048576 = x := ⟨_, rfl⟩
  obtain ⟨t1, g7⟩ : ∃ x, torq P.m s.fd s.fq = x := ⟨_, rfl⟩
  obtain ⟨c1, g8⟩ : ∃ x, cuA P s = x := ⟨_, rfl⟩
  obtain ⟨c2, g9⟩ : ∃ x, cuB P s = x := ⟨_, rfl⟩
  obtain ⟨c3, g10⟩ : ∃ x, cuC P s = x := ⟨_, rfl⟩
  simp only [g1, g3, g5, g6, g7, g8, g9, g10] at k3
  obtain ⟨nx, hnx⟩ : ∃ x, pxS P s z = x := ⟨_, rfl⟩
  simp only [hnx] at k2 k4 g2 g4 law b2 b4 bv
  simp only [g2, g4] at k4
  obtain ⟨v2, g11⟩ : ∃ x, clipI nx.v 0 1048576 = x := ⟨_, rfl⟩
  obtain ⟨t2, g12⟩ : ∃ x, torq P.m nx.fd nx.fq = x := ⟨_, rfl⟩
  obtain ⟨d1, g13⟩ : ∃ x, cuA P nx = x := ⟨_, rfl⟩
  obtain ⟨d2, g14⟩ : ∃ x, cuB P nx = x := ⟨_, rfl⟩
  obtain ⟨d3, g15⟩ : ∃ x, cuC P nx = x := ⟨_, rfl⟩
  simp only [g11, g12, g13, g14, g15] at k4
  rw [g1, g2, g3, g4] at law
  rw [g1] at b1
  rw [g2] at b2
  rw [g3] at b3
  rw [g4] at b4
  obtain ⟨sp2, h1⟩ : ∃ x, nx.sp = x := ⟨_, rfl⟩
  obtain ⟨tn2, h2⟩ : ∃ x, nx.tn = x := ⟨_, rfl⟩
  rw [h1, h2] at law
  rw [h1] at bv
  simp only [h1, h2] at k2 k4
  obtain ⟨l1, l2, l3, l4⟩ := law
  have e1 : wrap64 (w2' - w1') = w2' - w1' := by unfold wrap64; omega
  have e2 : wrap64 (w2' - w1' - sp2) = w2' - w1' - sp2 := by unfold wrap64; omega
  have e3 : (w2' - w1' - sp2).tmod 144115188075855872 = 0 := tmod_zero l3
  have e4 : wrap64 (x1 + tn2) = x1 + tn2 := by unfold wrap64; omega
  have e5 : wrap64 (x1 + tn2 - x2) = x1 + tn2 - x2 := by unfold wrap64; omega
  have e6 : (x1 + tn2 - x2).tmod 65536 = 0 := tmod_zero l4
  have K2 := hide k2
  have K3 := hide k3
  have K4 := hide k4
  have n1 : ¬ tn2 < -16384 := by omega
  have n2 : ¬ 16384 < tn2 := by omega
  clear k2 k3 k4 l1 l2 l3 l4 b1 b2 b3 b4 bv g1 g2 g3 g4 g5 g6 g7 g8 g9 g10 g11 g12 g13 g14 g15 hnx h1 h2 hv hq ht hcl ey eg gm y3 hl hc hi hp
  have HB := Below.refl w.heap.size w
  obtain ⟨w1, eW1, sW1, rc, hb⟩ := box w #[.int .i64 P.m.r, .int .i64 P.m.m, .slice X.A1 X.n1 X.c1, .slice X.A2 X.n2 X.c2, .slice X.A3 X.n3 X.c3, .slice X.A4 X.n4 X.c4, .int .i64 P.m.p, .int .i64 P.m.s, .int .i64 P.m.f, .int .i64 P.l.num, .int .i64 P.l.den, .int .i64 P.l.sup, .int .i64 P.l.fed, .int .i64 P.l.ohm, .int .i64 P.l.bon, .int .i64 P.l.boff, .int .i64 P.l.bohm, .int .i64 P.g, .int .i64 P.d, .int .i64 P.y, .slice X.B1 X.m1 X.d1, .slice X.B2 X.m2 X.d2, .slice X.B3 X.m3 X.d3, .int .i64 P.wi, .int .i64 P.sw] 35 (g := w.heap.size) rfl HB (by have := HB.size; omega)
  have Qrc : Hid (w.heap.size ≤ w.heap.size) := Lib.hid (by have := HB.size; omega)
  replace HB := hb
  clear hb
  obtain ⟨w2, eW2, sW2, rs, hb⟩ := box w1 #[.int .i64 s.fd, .int .i64 s.fq, .int .i64 s.v, .bool s.b, .int .i64 s.po, .int .i64 s.sp, .slice YA yn yc, .int .i64 s.tn] 45 (g := w.heap.size + 1) sW1 HB (by have := HB.size; omega)
  have Qrs : Hid (w.heap.size ≤ w.heap.size + 1 ∧ w.heap.size < w.heap.size + 1) := Lib.hid ⟨by have := HB.size; omega, by have := rc.lt; omega⟩
  replace rc := rc.al eW2
  replace HB := hb
  clear hb
  obtain ⟨w3, eW3, sW3, ri, hb⟩ := box w2 #[.int .i64 z.per, .bool z.b0, .bool z.b1, .bool z.b2, .bool z.b3, .bool z.b4, .bool z.b5, .slice GA gn gc, .int .i64 z.ld, .int .i64 z.amb, .bool z.k0, .bool z.k1, .bool z.k2, .bool z.k3, .bool z.k4, .bool z.k5, .bool z.de, .bool z.nb] 51 (g := w.heap.size + 1 + 1) sW2 HB (by have := HB.size; omega)
  have Qri : Hid (w.heap.size ≤ w.heap.size + 1 + 1 ∧ w.heap.size < w.heap.size + 1 + 1 ∧ w.heap.size + 1 < w.heap.size + 1 + 1) := Lib.hid ⟨by have := HB.size; omega, by have := rc.lt; omega, by have := rs.lt; omega⟩
  replace rc := rc.al eW3
  replace rs := rs.al eW3
  replace HB := hb
  clear hb
  go_enter Try.func5, Try.ntmps5
  go_wp2_with fail
  with_reducible refine (awakeP_walk _).mono ?_
  rintro e w4 ⟨rfl, hb⟩
  replace rc := rc.below hb rc.lt
  replace rs := rs.below hb rs.lt
  replace ri := ri.below hb ri.lt
  replace HB := HB.trans (hb.mono HB.size)
  clear hb
  clear eW1 sW1 eW2 sW2 eW3 sW3
  go_wp2_with (first | (refine wpList_load_row rfl 35 _ rfl (w.heap.size) rfl _ _ _ _ rc Try.underlying35 rfl (by kernel_rfl) ?_) | (refine wpList_load_rowG 35 _ rfl (by go_simp) (w.heap.size) rfl _ _ _ _ rc Try.underlying35 rfl (by kernel_rfl) ?_) | (refine wpList_load_row rfl 45 _ rfl (w.heap.size + 1) rfl _ _ _ _ rs Try.underlying45 rfl (by kernel_rfl) ?_) | (refine wpList_load_rowG 45 _ rfl (by go_simp) (w.heap.size + 1) rfl _ _ _ _ rs Try.underlying45 rfl (by kernel_rfl) ?_) | (refine wpList_load_row rfl 51 _ rfl (w.heap.size + 1 + 1) rfl _ _ _ _ ri Try.underlying51 rfl (by kernel_rfl) ?_) | (refine wpList_load_rowG 51 _ rfl (by go_simp) (w.heap.size + 1 + 1) rfl _ _ _ _ ri Try.underlying51 rfl (by kernel_rfl) ?_))
  with_reducible refine ((unhide KL) _).mono ?_
  rintro e w5 ⟨rfl, hb⟩
  replace rc := rc.below hb rc.lt
  replace rs := rs.below hb rs.lt
  replace ri := ri.below hb ri.lt
  replace HB := HB.trans (hb.mono HB.size)
  clear hb
  go_wp2_with (first | (refine wpList_load_row rfl 35 _ rfl (w.heap.size) rfl _ _ _ _ rc Try.underlying35 rfl (by kernel_rfl) ?_) | (refine wpList_load_row rfl 45 _ rfl (w.heap.size + 1) rfl _ _ _ _ rs Try.underlying45 rfl (by kernel_rfl) ?_) | (refine wpList_load_row rfl 51 _ rfl (w.heap.size + 1 + 1) rfl _ _ _ _ ri Try.underlying51 rfl (by kernel_rfl) ?_))
  with_reducible refine ((unhide K2) _ ((L.below HB).more HB.size) ((SY.below HB).more HB.size) ((SG.below HB).more HB.size)).mono ?_
  rintro e w6 ⟨⟨A, c, rfl, SA, fA⟩, hb⟩
  replace rc := rc.below hb rc.lt
  replace rs := rs.below hb rs.lt
  replace ri := ri.below hb ri.lt
  replace HB := HB.trans (hb.mono HB.size)
  clear hb
  clear fA
  have HS := Below.refl w6.heap.size w6
  obtain ⟨w7, eW7, sW7, rt, hb⟩ := box w6 #[.int .i64 0, .int .i64 0, .int .i64 0, .bool false, .int .i64 0, .int .i64 0, .slice none 0 0, .int .i64 0] 45 (g := w6.heap.size) rfl HB (by have := HB.size; omega)
  have Qrt : Hid (w.heap.size ≤ w6.heap.size ∧ w6.heap.size ≤ w6.heap.size ∧ w.heap.size < w6.heap.size ∧ w.heap.size + 1 < w6.heap.size ∧ w.heap.size + 1 + 1 < w6.heap.size) := Lib.hid ⟨by have := HB.size; omega, by have := HS.size; omega, by have := rc.lt; omega, by have := rs.lt; omega, by have := ri.lt; omega⟩
  replace rc := rc.al eW7
  replace rs := rs.al eW7
  replace ri := ri.al eW7
  replace HS : Below w6.heap.size w6 w7 := eW7 ▸ HS.alloc HS.size _
  replace HB := hb
  clear hb
  have qrc := Qrc.out
  have qrs := Qrs.out
  have qri := Qri.out
  have qrt := Qrt.out
  have uHS := HS.size
  have rto7 := rt
  obtain ⟨w8, eW8, sW8, hr, hb⟩ := rowX rt #[.int .i64 nx.fd, .int .i64 nx.fq, .int .i64 nx.v, .bool nx.b, .int .i64 nx.po, .int .i64 sp2, .slice A 3 c, .int .i64 tn2] (n := w6.heap.size + 1) sW7 HB (by omega)
  replace rc := rc.rowTo eW8 (by omega)
  replace rs := rs.rowTo eW8 (by omega)
  replace ri := ri.rowTo eW8 (by omega)
  replace rt := hr
  have HSo := HS
  replace HS : Below w6.heap.size w6 w8 := eW8 ▸ below_row HS (by omega)
  replace HB := hb
  clear hb hr qrc qrs qri qrt uHS
  go_wp2_with (first | (refine wpList_load_row rfl 35 _ rfl (w.heap.size) rfl _ _ _ _ rc Try.underlying35 rfl (by kernel_rfl) ?_) | (refine wpList_load_row rfl 45 _ rfl (w.heap.size + 1) rfl _ _ _ _ rs Try.underlying45 rfl (by kernel_rfl) ?_) | (refine wpList_store_row rfl 45 _ _ rfl (w6.heap.size) #[.int .i64 nx.fd, .int .i64 nx.fq, .int .i64 nx.v, .bool nx.b, .int .i64 nx.po, .int .i64 sp2, .slice A 3 c, .int .i64 tn2] rfl rfl _ _ rto7 (by kernel_rfl) (by kernel_rfl) (by kernel_rfl) ?_))
  with_reducible refine ((unhide K3) _ ((L.below HB).more HB.size) ((SY.below HB).more HB.size)).mono ?_
  rintro e w9 ⟨⟨A3, u3, rfl, S3, f3⟩, hb⟩
  replace rc := rc.below hb rc.lt
  replace rs := rs.below hb rs.lt
  replace ri := ri.below hb ri.lt
  replace rt := rt.below hb rt.lt
  replace HB := HB.trans (hb.mono HB.size)
  replace HS := HS.trans (hb.mono HS.size)
  clear hb
  clear rto7 eW7 sW7 eW8 sW8
  clear S3 f3
  obtain ⟨w10, eW10, sW10, ra, hb⟩ := box w9 #[.int .i64 0, .int .i64 0, .int .i64 0, .int .i64 0, .int .i64 0, .int .i64 0, .int .i64 0, .int .i64 0, .slice none 0 0] 65 (g := w9.heap.size) rfl HB (by have := HB.size; omega)
  have Qra : Hid (w.heap.size ≤ w9.heap.size ∧ w6.heap.size ≤ w9.heap.size ∧ w.heap.size < w9.heap.size ∧ w.heap.size + 1 < w9.heap.size ∧ w.heap.size + 1 + 1 < w9.heap.size ∧ w6.heap.size < w9.heap.size) := Lib.hid ⟨by have := HB.size; omega, by have := HS.size; omega, by have := rc.lt; omega, by have := rs.lt; omega, by have := ri.lt; omega, by have := rt.lt; omega⟩
  replace rc := rc.al eW10
  replace rs := rs.al eW10
  replace ri := ri.al eW10
  replace rt := rt.al eW10
  replace HS : Below w6.heap.size w6 w10 := eW10 ▸ HS.alloc HS.size _
  replace HB := hb
  clear hb
  have qrc := Qrc.out
  have qrs := Qrs.out
  have qri := Qri.out
  have qrt := Qrt.out
  have qra := Qra.out
  have uHS := HS.size
  have rao10 := ra
  obtain ⟨w11, eW11, sW11, hr, hb⟩ := rowX ra #[.int .i64 c1, .int .i64 c2, .int .i64 c3, .int .i64 v1, .int .i64 x1, .int .i64 (w1'), .int .i64 cl, .int .i64 t1, .slice A3 3 u3] (n := w9.heap.size + 1) sW10 HB (by omega)
  replace rc := rc.rowTo eW11 (by omega)
  replace rs := rs.rowTo eW11 (by omega)
  replace ri := ri.rowTo eW11 (by omega)
  replace rt := rt.rowTo eW11 (by omega)
  replace ra := hr
  have HSo := HS
  replace HS : Below w6.heap.size w6 w11 := eW11 ▸ below_row HS (by omega)
  replace HB := hb
  clear hb hr qrc qrs qri qrt qra uHS
  go_wp2_with (first | (refine wpList_load_row rfl 35 _ rfl (w.heap.size) rfl _ _ _ _ rc Try.underlying35 rfl (by kernel_rfl) ?_) | (refine wpList_load_row rfl 45 _ rfl (w6.heap.size) rfl _ _ _ _ rt Try.underlying45 rfl (by kernel_rfl) ?_) | (refine wpList_store_row rfl 65 _ _ rfl (w9.heap.size) #[.int .i64 c1, .int .i64 c2, .int .i64 c3, .int .i64 v1, .int .i64 x1, .int .i64 (w1'), .int .i64 cl, .int .i64 t1, .slice A3 3 u3] rfl rfl _ _ rao10 (by kernel_rfl) (by kernel_rfl) (by kernel_rfl) ?_))
  with_reducible refine ((unhide K4) _ A c ((L.below HB).more HB.size) ((SA.below HS).more HS.size)).mono ?_
  rintro e w12 ⟨⟨A4, u4, rfl, S4, f4⟩, hb⟩
  replace rc := rc.below hb rc.lt
  replace rs := rs.below hb rs.lt
  replace ri := ri.below hb ri.lt
  replace rt := rt.below hb rt.lt
  replace ra := ra.below hb ra.lt
  replace HB := HB.trans (hb.mono HB.size)
  replace HS := HS.trans (hb.mono HS.size)
  clear hb
  clear rao10 eW10 sW10 eW11 sW11
  clear S4 f4
  obtain ⟨w13, eW13, sW13, rb, hb⟩ := box w12 #[.int .i64 0, .int .i64 0, .int .i64 0, .int .i64 0, .int .i64 0, .int .i64 0, .int .i64 0, .int .i64 0, .slice none 0 0] 65 (g := w12.heap.size) rfl HB (by have := HB.size; omega)
  have Qrb : Hid (w.heap.size ≤ w12.heap.size ∧ w6.heap.size ≤ w12.heap.size ∧ w.heap.size < w12.heap.size ∧ w.heap.size + 1 < w12.heap.size ∧ w.heap.size + 1 + 1 < w12.heap.size ∧ w6.heap.size < w12.heap.size ∧ w9.heap.size < w12.heap.size) := Lib.hid ⟨by have := HB.size; omega, by have := HS.size; omega, by have := rc.lt; omega, by have := rs.lt; omega, by have := ri.lt; omega, by have := rt.lt; omega, by have := ra.lt; omega⟩
  replace rc := rc.al eW13
  replace rs := rs.al eW13
  replace ri := ri.al eW13
  replace rt := rt.al eW13
  replace ra := ra.al eW13
  replace HS : Below w6.heap.size w6 w13 := eW13 ▸ HS.alloc HS.size _
  replace HB := hb
  clear hb
  have qrc := Qrc.out
  have qrs := Qrs.out
  have qri := Qri.out
  have qrt := Qrt.out
  have qra := Qra.out
  have qrb := Qrb.out
  have uHS := HS.size
  have rbo13 := rb
  obtain ⟨w14, eW14, sW14, hr, hb⟩ := rowX rb #[.int .i64 d1, .int .i64 d2, .int .i64 d3, .int .i64 v2, .int .i64 x2, .int .i64 (w2'), .int .i64 sp2, .int .i64 t2, .slice A4 3 u4] (n := w12.heap.size + 1) sW13 HB (by omega)
  replace rc := rc.rowTo eW14 (by omega)
  replace rs := rs.rowTo eW14 (by omega)
  replace ri := ri.rowTo eW14 (by omega)
  replace rt := rt.rowTo eW14 (by omega)
  replace ra := ra.rowTo eW14 (by omega)
  replace rb := hr
  have HSo := HS
  replace HS : Below w6.heap.size w6 w14 := eW14 ▸ below_row HS (by omega)
  replace HB := hb
  clear hb hr qrc qrs qri qrt qra qrb uHS
  have rtc0 := rt.cell 0
  have rtc1 := rt.cell 1
  have rtc2 := rt.cell 2
  have rtc3 := rt.cell 3
  have rtc4 := rt.cell 4
  have rtc5 := rt.cell 5
  have rtc6 := rt.cell 6
  have rtc7 := rt.cell 7
  have rac0 := ra.cell 0
  have rac1 := ra.cell 1
  have rac2 := ra.cell 2
  have rac3 := ra.cell 3
  have rac4 := ra.cell 4
  have rac5 := ra.cell 5
  have rac6 := ra.cell 6
  have rac7 := ra.cell 7
  have rac8 := ra.cell 8
  have rbc0 := rb.cell 0
  have rbc1 := rb.cell 1
  have rbc2 := rb.cell 2
  have rbc3 := rb.cell 3
  have rbc4 := rb.cell 4
  have rbc5 := rb.cell 5
  have rbc6 := rb.cell 6
  have rbc7 := rb.cell 7
  have rbc8 := rb.cell 8
  go_wp2_with (first | (refine wpList_store_row rfl 65 _ _ rfl (w12.heap.size) #[.int .i64 d1, .int .i64 d2, .int .i64 d3, .int .i64 v2, .int .i64 x2, .int .i64 (w2'), .int .i64 sp2, .int .i64 t2, .slice A4 3 u4] rfl rfl _ _ rbo13 (by kernel_rfl) (by kernel_rfl) (by kernel_rfl) ?_))
  go_ret
  exact ⟨rfl, HB⟩
theorem turns_walk (P : Pc) (X : Pa) (s : Ps) (YA : Option Addr) (yn yc : Nat) (z : Pi) (GA : Option Addr) (gn gc : Nat) (w : World) (L : Py w w.heap.size P X) (SY : Sl w w.heap.size 1 YA (rows s.h)) (ey : yn = s.h.length) (SG : Sl w w.heap.size 3 GA (z.es.map I.Ed.row)) (eg : gn = z.es.length) :
    Calls Try.prog 5 #[.agg #[.int .i64 P.m.r, .int .i64 P.m.m, .slice X.A1 X.n1 X.c1, .slice X.A2 X.n2 X.c2, .slice X.A3 X.n3 X.c3, .slice X.A4 X.n4 X.c4, .int .i64 P.m.p, .int .i64 P.m.s, .int .i64 P.m.f, .int .i64 P.l.num, .int .i64 P.l.den, .int .i64 P.l.sup, .int .i64 P.l.fed, .int .i64 P.l.ohm, .int .i64 P.l.bon, .int .i64 P.l.boff, .int .i64 P.l.bohm, .int .i64 P.g, .int .i64 P.d, .int .i64 P.y, .slice X.B1 X.m1 X.d1, .slice X.B2 X.m2 X.d2, .slice X.B3 X.m3 X.d3, .int .i64 P.wi, .int .i64 P.sw], .agg #[.int .i64 s.fd, .int .i64 s.fq, .int .i64 s.v, .bool s.b, .int .i64 s.po, .int .i64 s.sp, .slice YA yn yc, .int .i64 s.tn], .agg #[.int .i64 z.per, .bool z.b0, .bool z.b1, .bool z.b2, .bool z.b3, .bool z.b4, .bool z.b5, .slice GA gn gc, .int .i64 z.ld, .int .i64 z.amb, .bool z.k0, .bool z.k1, .bool z.k2, .bool z.k3, .bool z.k4, .bool z.k5, .bool z.de, .bool z.nb]] w fun e w' => e = .returned (.bool true) ∧ Below w.heap.size w w' := by
  cases hl : lgP X yn gn with
  | true => exact turns_large P X s YA yn yc z GA gn gc w hl
  | false =>
    by_cases hc : stCode P s z = 0
    · exact turns_ok P X s YA yn yc z GA gn gc w L SY ey SG eg hl hc
    · exact turns_bad P X s YA yn yc z GA gn gc w L ey SG eg hl hc
end Go.Proofs.Ytpfkiohknpeifaa
