/- The walk of the statement PlantSteps. -/
import Derived.Test.YtpfkiohknpeifaaGreatPAwake
import Derived.Test.YtpfkiohknpeifaaGreatPLarge
import Derived.Test.YtpfkiohknpeifaaGreatPLaws
import Derived.Test.YtpfkiohknpeifaaGreatPPChkR
import Derived.Test.YtpfkiohknpeifaaGreatPRRef
import Derived.Test.YtpfkiohknpeifaaGreatPSame
import Derived.Test.YtpfkiohknpeifaaGreatMultiG
import Derived.Test.YtpfkiohknpeifaaGreatPRStep
namespace Go.Proofs.YtpfkiohknpeifaaGreat
open Go.RowKit
set_option maxRecDepth 100000 in
set_option maxHeartbeats 6400000 in
theorem psteps_large (P : Pc) (X : Pa) (s : Ps) (YA : Option Addr) (yn yc : Nat) (z : Pi) (GA : Option Addr) (gn gc : Nat) (w : World) (hl : lgP X yn gn = true) :
    Calls Tryz.prog 4 #[.agg #[.int .i64 P.m.r, .int .i64 P.m.m, .slice X.A1 X.n1 X.c1, .slice X.A2 X.n2 X.c2, .slice X.A3 X.n3 X.c3, .slice X.A4 X.n4 X.c4, .int .i64 P.m.p, .int .i64 P.m.s, .int .i64 P.m.f, .int .i64 P.l.num, .int .i64 P.l.den, .int .i64 P.l.sup, .int .i64 P.l.fed, .int .i64 P.l.ohm, .int .i64 P.l.bon, .int .i64 P.l.boff, .int .i64 P.l.bohm, .int .i64 P.g, .int .i64 P.d, .int .i64 P.y, .slice X.B1 X.m1 X.d1, .slice X.B2 X.m2 X.d2, .slice X.B3 X.m3 X.d3, .int .i64 P.wi, .int .i64 P.sw], .agg #[.int .i64 s.fd, .int .i64 s.fq, .int .i64 s.v, .bool s.b, .int .i64 s.po, .int .i64 s.sp, .slice YA yn yc, .int .i64 s.tn], .agg #[.int .i64 z.per, .bool z.b0, .bool z.b1, .bool z.b2, .bool z.b3, .bool z.b4, .bool z.b5, .slice GA gn gc, .int .i64 z.ld, .int .i64 z.amb, .bool z.k0, .bool z.k1, .bool z.k2, .bool z.k3, .bool z.k4, .bool z.k5, .bool z.de, .bool z.nb]] w fun e w' => e = .returned (.bool true) ∧ Below w.heap.size w w' := by
  have kl := fun W => large_walkP P X s YA yn yc z GA gn gc W
  simp only [hl] at kl
  have KL := hide kl
  clear kl
  clear hl
  have HB := Below.refl w.heap.size w
  obtain ⟨w1, eW1, sW1, rc, hb⟩ := box w #[.int .i64 P.m.r, .int .i64 P.m.m, .slice X.A1 X.n1 X.c1, .slice X.A2 X.n2 X.c2, .slice X.A3 X.n3 X.c3, .slice X.A4 X.n4 X.c4, .int .i64 P.m.p, .int .i64 P.m.s, .int .i64 P.m.f, .int .i64 P.l.num, .int .i64 P.l.den, .int .i64 P.l.sup, .int .i64 P.l.fed, .int .i64 P.l.ohm, .int .i64 P.l.bon, .int .i64 P.l.boff, .int .i64 P.l.bohm, .int .i64 P.g, .int .i64 P.d, .int .i64 P.y, .slice X.B1 X.m1 X.d1, .slice X.B2 X.m2 X.d2, .slice X.B3 X.m3 X.d3, .int .i64 P.wi, .int .i64 P.sw] 35 (g := w.heap.size) rfl HB (by have := HB.size; omega)
  have Qrc : Hid (w.heap.size ≤ w.heap.size) := Lib.hid (by have := HB.size; omega)
  replace HB := hb
  clear hb
  obtain ⟨w2, eW2, sW2, rs, hb⟩ := box w1 #[.int .i64 s.fd, .int .i64 s.fq, .int .i64 s.v, .bool s.b, .int .i64 s.po, .int .i64 s.sp, .slice YA yn yc, .int .i64 s.tn] 47 (g := w.heap.size + 1) sW1 HB (by have := HB.size; omega)
  have Qrs : Hid (w.heap.size ≤ w.heap.size + 1 ∧ w.heap.size < w.heap.size + 1) := Lib.hid ⟨by have := HB.size; omega, by have := rc.lt; omega⟩
  replace rc := rc.al eW2
  replace HB := hb
  clear hb
  obtain ⟨w3, eW3, sW3, ri, hb⟩ := box w2 #[.int .i64 z.per, .bool z.b0, .bool z.b1, .bool z.b2, .bool z.b3, .bool z.b4, .bool z.b5, .slice GA gn gc, .int .i64 z.ld, .int .i64 z.amb, .bool z.k0, .bool z.k1, .bool z.k2, .bool z.k3, .bool z.k4, .bool z.k5, .bool z.de, .bool z.nb] 53 (g := w.heap.size + 1 + 1) sW2 HB (by have := HB.size; omega)
  have Qri : Hid (w.heap.size ≤ w.heap.size + 1 + 1 ∧ w.heap.size < w.heap.size + 1 + 1 ∧ w.heap.size + 1 < w.heap.size + 1 + 1) := Lib.hid ⟨by have := HB.size; omega, by have := rc.lt; omega, by have := rs.lt; omega⟩
  replace rc := rc.al eW3
  replace rs := rs.al eW3
  replace HB := hb
  clear hb
  go_enter Tryz.func4, Tryz.ntmps4
  go_wp2_with fail
  with_reducible refine (awakeP_walk _).mono ?_
  rintro e w4 ⟨rfl, hb⟩
  replace rc := rc.below hb rc.lt
  replace rs := rs.below hb rs.lt
  replace ri := ri.below hb ri.lt
  replace HB := HB.trans (hb.mono HB.size)
  clear hb
  clear eW1 sW1 eW2 sW2 eW3 sW3
  go_wp2_with (first | (refine wpList_load_row rfl 35 _ rfl (w.heap.size) rfl _ _ _ _ rc Tryz.underlying35 rfl (by kernel_rfl) ?_) | (refine wpList_load_rowG 35 _ rfl (by go_simp) (w.heap.size) rfl _ _ _ _ rc Tryz.underlying35 rfl (by kernel_rfl) ?_) | (refine wpList_load_row rfl 47 _ rfl (w.heap.size + 1) rfl _ _ _ _ rs Tryz.underlying47 rfl (by kernel_rfl) ?_) | (refine wpList_load_rowG 47 _ rfl (by go_simp) (w.heap.size + 1) rfl _ _ _ _ rs Tryz.underlying47 rfl (by kernel_rfl) ?_) | (refine wpList_load_row rfl 53 _ rfl (w.heap.size + 1 + 1) rfl _ _ _ _ ri Tryz.underlying53 rfl (by kernel_rfl) ?_) | (refine wpList_load_rowG 53 _ rfl (by go_simp) (w.heap.size + 1 + 1) rfl _ _ _ _ ri Tryz.underlying53 rfl (by kernel_rfl) ?_))
  with_reducible refine ((unhide KL) _).mono ?_
  rintro e w5 ⟨rfl, hb⟩
  replace rc := rc.below hb rc.lt
  replace rs := rs.below hb rs.lt
  replace ri := ri.below hb ri.lt
  replace HB := HB.trans (hb.mono HB.size)
  clear hb
  go_wp2_with fail
  with_reducible refine (awakeP_walk _).mono ?_
  rintro e w6 ⟨rfl, hb⟩
  replace rc := rc.below hb rc.lt
  replace rs := rs.below hb rs.lt
  replace ri := ri.below hb ri.lt
  replace HB := HB.trans (hb.mono HB.size)
  clear hb
  go_wp2
  go_ret
  exact ⟨rfl, HB⟩
set_option maxRecDepth 100000 in
set_option maxHeartbeats 6400000 in
theorem psteps_bad1 (P : Pc) (X : Pa) (s : Ps) (YA : Option Addr) (yn yc : Nat) (z : Pi) (GA : Option Addr) (gn gc : Nat) (w : World) (L : Py w w.heap.size P X) (ey : yn = s.h.length) (SG : Sl w w.heap.size 3 GA (z.es.map I.Ed.row)) (eg : gn = z.es.length) (hl : lgP X yn gn = false) (hc : plCode P ≠ 0) :
    Calls Tryz.prog 4 #[.agg #[.int .i64 P.m.r, .int .i64 P.m.m, .slice X.A1 X.n1 X.c1, .slice X.A2 X.n2 X.c2, .slice X.A3 X.n3 X.c3, .slice X.A4 X.n4 X.c4, .int .i64 P.m.p, .int .i64 P.m.s, .int .i64 P.m.f, .int .i64 P.l.num, .int .i64 P.l.den, .int .i64 P.l.sup, .int .i64 P.l.fed, .int .i64 P.l.ohm, .int .i64 P.l.bon, .int .i64 P.l.boff, .int .i64 P.l.bohm, .int .i64 P.g, .int .i64 P.d, .int .i64 P.y, .slice X.B1 X.m1 X.d1, .slice X.B2 X.m2 X.d2, .slice X.B3 X.m3 X.d3, .int .i64 P.wi, .int .i64 P.sw], .agg #[.int .i64 s.fd, .int .i64 s.fq, .int .i64 s.v, .bool s.b, .int .i64 s.po, .int .i64 s.sp, .slice YA yn yc, .int .i64 s.tn], .agg #[.int .i64 z.per, .bool z.b0, .bool z.b1, .bool z.b2, .bool z.b3, .bool z.b4, .bool z.b5, .slice GA gn gc, .int .i64 z.ld, .int .i64 z.amb, .bool z.k0, .bool z.k1, .bool z.k2, .bool z.k3, .bool z.k4, .bool z.k5, .bool z.de, .bool z.nb]] w fun e w' => e = .returned (.bool true) ∧ Below w.heap.size w w' := by
  have kl := fun W => large_walkP P X s YA yn yc z GA gn gc W
  simp only [hl] at kl
  have KL := hide kl
  clear kl
  have gm : gn ≤ 1000000 := by have := lgP_gn hl; omega
  have kc := fun (W : World) (h : Py W W.heap.size P X) => rckR P X W h
  have hst : stCode P s z = plCode P := by unfold stCode; rw [if_pos hc]
  have k1 := fun (W : World) (h : Py W W.heap.size P X) (hg : Sl W W.heap.size 3 GA (z.es.map I.Ed.row)) => pstepM_bad P X s YA yn yc z GA gn gc W h ey hg eg gm (by rw [hst]; exact hc)
  simp only [hst, errV_ne hc] at k1
  obtain ⟨cd, hcd⟩ : ∃ x, plCode P = x := ⟨_, rfl⟩
  simp only [hcd] at kc k1
  rw [hcd] at hc
  have hcb : (cd != 0) = true := by simp [hc]
  have hcb2 : (cd == 0) = false := by simp [hc]
  have ks := fun (W : World) => sameR 0 0 0 0 0 0 false [] none none 0 0 0 W (Sl.nil _ _ _ _) (Sl.nil _ _ _ _) rfl (by decide)
  have KS := hide ks
  clear ks
  have KC := hide kc
  have K1 := hide k1
  clear kc k1  hcd hl hst ey eg gm
  have HB := Below.refl w.heap.size w
  obtain ⟨w1, eW1, sW1, rc, hb⟩ := box w #[.int .i64 P.m.r, .int .i64 P.m.m, .slice X.A1 X.n1 X.c1, .slice X.A2 X.n2 X.c2, .slice X.A3 X.n3 X.c3, .slice X.A4 X.n4 X.c4, .int .i64 P.m.p, .int .i64 P.m.s, .int .i64 P.m.f, .int .i64 P.l.num, .int .i64 P.l.den, .int .i64 P.l.sup, .int .i64 P.l.fed, .int .i64 P.l.ohm, .int .i64 P.l.bon, .int .i64 P.l.boff, .int .i64 P.l.bohm, .int .i64 P.g, .int .i64 P.d, .int .i64 P.y, .slice X.B1 X.m1 X.d1, .slice X.B2 X.m2 X.d2, .slice X.B3 X.m3 X.d3, .int .i64 P.wi, .int .i64 P.sw] 35 (g := w.heap.size) rfl HB (by have := HB.size; omega)
  have Qrc : Hid (w.heap.size ≤ w.heap.size) := Lib.hid (by have := HB.size; omega)
  replace HB := hb
  clear hb
  obtain ⟨w2, eW2, sW2, rs, hb⟩ := box w1 #[.int .i64 s.fd, .int .i64 s.fq, .int .i64 s.v, .bool s.b, .int .i64 s.po, .int .i64 s.sp, .slice YA yn yc, .int .i64 s.tn] 47 (g := w.heap.size + 1) sW1 HB (by have := HB.size; omega)
  have Qrs : Hid (w.heap.size ≤ w.heap.size + 1 ∧ w.heap.size < w.heap.size + 1) := Lib.hid ⟨by have := HB.size; omega, by have := rc.lt; omega⟩
  replace rc := rc.al eW2
  replace HB := hb
  clear hb
  obtain ⟨w3, eW3, sW3, ri, hb⟩ := box w2 #[.int .i64 z.per, .bool z.b0, .bool z.b1, .bool z.b2, .bool z.b3, .bool z.b4, .bool z.b5, .slice GA gn gc, .int .i64 z.ld, .int .i64 z.amb, .bool z.k0, .bool z.k1, .bool z.k2, .bool z.k3, .bool z.k4, .bool z.k5, .bool z.de, .bool z.nb] 53 (g := w.heap.size + 1 + 1) sW2 HB (by have := HB.size; omega)
  have Qri : Hid (w.heap.size ≤ w.heap.size + 1 + 1 ∧ w.heap.size < w.heap.size + 1 + 1 ∧ w.heap.size + 1 < w.heap.size + 1 + 1) := Lib.hid ⟨by have := HB.size; omega, by have := rc.lt; omega, by have := rs.lt; omega⟩
  replace rc := rc.al eW3
  replace rs := rs.al eW3
  replace HB := hb
  clear hb
  go_enter Tryz.func4, Tryz.ntmps4
  go_wp2_with fail
  with_reducible refine (awakeP_walk _).mono ?_
  rintro e w4 ⟨rfl, hb⟩
  replace rc := rc.below hb rc.lt
  replace rs := rs.below hb rs.lt
  replace ri := ri.below hb ri.lt
  replace HB := HB.trans (hb.mono HB.size)
  clear hb
  clear eW1 sW1 eW2 sW2 eW3 sW3
  go_wp2_with (first | (refine wpList_load_row rfl 35 _ rfl (w.heap.size) rfl _ _ _ _ rc Tryz.underlying35 rfl (by kernel_rfl) ?_) | (refine wpList_load_rowG 35 _ rfl (by go_simp) (w.heap.size) rfl _ _ _ _ rc Tryz.underlying35 rfl (by kernel_rfl) ?_) | (refine wpList_load_row rfl 47 _ rfl (w.heap.size + 1) rfl _ _ _ _ rs Tryz.underlying47 rfl (by kernel_rfl) ?_) | (refine wpList_load_rowG 47 _ rfl (by go_simp) (w.heap.size + 1) rfl _ _ _ _ rs Tryz.underlying47 rfl (by kernel_rfl) ?_) | (refine wpList_load_row rfl 53 _ rfl (w.heap.size + 1 + 1) rfl _ _ _ _ ri Tryz.underlying53 rfl (by kernel_rfl) ?_) | (refine wpList_load_rowG 53 _ rfl (by go_simp) (w.heap.size + 1 + 1) rfl _ _ _ _ ri Tryz.underlying53 rfl (by kernel_rfl) ?_))
  with_reducible refine ((unhide KL) _).mono ?_
  rintro e w5 ⟨rfl, hb⟩
  replace rc := rc.below hb rc.lt
  replace rs := rs.below hb rs.lt
  replace ri := ri.below hb ri.lt
  replace HB := HB.trans (hb.mono HB.size)
  clear hb
  go_wp2_with (first | (refine wpList_load_row rfl 35 _ rfl (w.heap.size) rfl _ _ _ _ rc Tryz.underlying35 rfl (by kernel_rfl) ?_) | (refine wpList_load_row rfl 47 _ rfl (w.heap.size + 1) rfl _ _ _ _ rs Tryz.underlying47 rfl (by kernel_rfl) ?_) | (refine wpList_load_row rfl 53 _ rfl (w.heap.size + 1 + 1) rfl _ _ _ _ ri Tryz.underlying53 rfl (by kernel_rfl) ?_))
  with_reducible refine ((unhide K1) _ ((L.below HB).more HB.size) ((SG.below HB).more HB.size)).mono ?_
  rintro e w6 ⟨rfl, hb⟩
  replace rc := rc.below hb rc.lt
  replace rs := rs.below hb rs.lt
  replace ri := ri.below hb ri.lt
  replace HB := HB.trans (hb.mono HB.size)
  clear hb
  obtain ⟨w7, eW7, sW7, rt, hb⟩ := box w6 #[.int .i64 0, .int .i64 0, .int .i64 0, .bool false, .int .i64 0, .int .i64 0, .slice none 0 0, .int .i64 0] 47 (g := w6.heap.size) rfl HB (by have := HB.size; omega)
  have Qrt : Hid (w.heap.size ≤ w6.heap.size ∧ w.heap.size < w6.heap.size ∧ w.heap.size + 1 < w6.heap.size ∧ w.heap.size + 1 + 1 < w6.heap.size) := Lib.hid ⟨by have := HB.size; omega, by have := rc.lt; omega, by have := rs.lt; omega, by have := ri.lt; omega⟩
  replace rc := rc.al eW7
  replace rs := rs.al eW7
  replace ri := ri.al eW7
  replace HB := hb
  clear hb
  have qrc := Qrc.out
  have qrs := Qrs.out
  have qri := Qri.out
  have qrt := Qrt.out
  have rto7 := rt
  obtain ⟨w8, eW8, sW8, hr, hb⟩ := rowX rt #[.int .i64 0, .int .i64 0, .int .i64 0, .bool false, .int .i64 0, .int .i64 0, .slice none 0 0, .int .i64 0] (n := w6.heap.size + 1) sW7 HB (by omega)
  replace rc := rc.rowTo eW8 (by omega)
  replace rs := rs.rowTo eW8 (by omega)
  replace ri := ri.rowTo eW8 (by omega)
  replace rt := hr
  replace HB := hb
  clear hb hr qrc qrs qri qrt
  go_wp2_with (first | (refine wpList_load_row rfl 35 _ rfl (w.heap.size) rfl _ _ _ _ rc Tryz.underlying35 rfl (by kernel_rfl) ?_) | (refine wpList_store_row rfl 47 _ _ rfl (w6.heap.size) #[.int .i64 0, .int .i64 0, .int .i64 0, .bool false, .int .i64 0, .int .i64 0, .slice none 0 0, .int .i64 0] rfl rfl _ _ rto7 (by kernel_rfl) (by kernel_rfl) (by kernel_rfl) ?_; try simp only [eW8]))
  with_reducible refine ((unhide KC) _ ((L.below HB).more HB.size)).mono ?_
  rintro e w9 ⟨rfl, hb⟩
  replace rc := rc.below hb rc.lt
  replace rs := rs.below hb rs.lt
  replace ri := ri.below hb ri.lt
  replace rt := rt.below hb rt.lt
  replace HB := HB.trans (hb.mono HB.size)
  clear hb
  clear rto7 eW7 sW7 eW8 sW8
  go_wp2_with (first | (refine wpList_load_row rfl 47 _ rfl (w6.heap.size) rfl _ _ _ _ rt Tryz.underlying47 rfl (by kernel_rfl) ?_))
  with_reducible refine ((unhide KS) _).mono ?_
  rintro e w10 ⟨rfl, hb⟩
  replace rc := rc.below hb rc.lt
  replace rs := rs.below hb rs.lt
  replace ri := ri.below hb ri.lt
  replace rt := rt.below hb rt.lt
  replace HB := HB.trans (hb.mono HB.size)
  clear hb
  go_wp2_with (first | (go_at_call 10; (with_reducible refine (I.num_iface _ _).mono ?_); rintro e w' ⟨rfl, rfl⟩))
  go_ret
  exact ⟨rfl, HB⟩
set_option maxRecDepth 100000 in
set_option maxHeartbeats 6400000 in
theorem psteps_bad2 (P : Pc) (X : Pa) (s : Ps) (YA : Option Addr) (yn yc : Nat) (z : Pi) (GA : Option Addr) (gn gc : Nat) (w : World) (L : Py w w.heap.size P X) (ey : yn = s.h.length) (SG : Sl w w.heap.size 3 GA (z.es.map I.Ed.row)) (eg : gn = z.es.length) (hl : lgP X yn gn = false) (h0 : plCode P = 0) (hc : inCode s z ≠ 0) :
    Calls Tryz.prog 4 #[.agg #[.int .i64 P.m.r, .int .i64 P.m.m, .slice X.A1 X.n1 X.c1, .slice X.A2 X.n2 X.c2, .slice X.A3 X.n3 X.c3, .slice X.A4 X.n4 X.c4, .int .i64 P.m.p, .int .i64 P.m.s, .int .i64 P.m.f, .int .i64 P.l.num, .int .i64 P.l.den, .int .i64 P.l.sup, .int .i64 P.l.fed, .int .i64 P.l.ohm, .int .i64 P.l.bon, .int .i64 P.l.boff, .int .i64 P.l.bohm, .int .i64 P.g, .int .i64 P.d, .int .i64 P.y, .slice X.B1 X.m1 X.d1, .slice X.B2 X.m2 X.d2, .slice X.B3 X.m3 X.d3, .int .i64 P.wi, .int .i64 P.sw], .agg #[.int .i64 s.fd, .int .i64 s.fq, .int .i64 s.v, .bool s.b, .int .i64 s.po, .int .i64 s.sp, .slice YA yn yc, .int .i64 s.tn], .agg #[.int .i64 z.per, .bool z.b0, .bool z.b1, .bool z.b2, .bool z.b3, .bool z.b4, .bool z.b5, .slice GA gn gc, .int .i64 z.ld, .int .i64 z.amb, .bool z.k0, .bool z.k1, .bool z.k2, .bool z.k3, .bool z.k4, .bool z.k5, .bool z.de, .bool z.nb]] w fun e w' => e = .returned (.bool true) ∧ Below w.heap.size w w' := by
  have kl := fun W => large_walkP P X s YA yn yc z GA gn gc W
  simp only [hl] at kl
  have KL := hide kl
  clear kl
  have gm : gn ≤ 1000000 := by have := lgP_gn hl; omega
  have kc := fun (W : World) (h : Py W W.heap.size P X) => rckR P X W h
  have hst : stCode P s z = inCode s z := by unfold stCode; rw [if_neg (by omega)]
  have k1 := fun (W : World) (h : Py W W.heap.size P X) (hg : Sl W W.heap.size 3 GA (z.es.map I.Ed.row)) => pstepM_bad P X s YA yn yc z GA gn gc W h ey hg eg gm (by rw [hst]; exact hc)
  simp only [hst, errV_ne hc] at k1
  have k2 := fun (W : World) (hg : Sl W W.heap.size 3 GA (z.es.map I.Ed.row)) => rinP s YA yn yc z GA gn gc W ey hg eg gm
  simp only [h0] at kc
  obtain ⟨cd, hcd⟩ : ∃ x, inCode s z = x := ⟨_, rfl⟩
  simp only [hcd] at k1 k2
  rw [hcd] at hc
  have hcb : (cd != 0) = true := by simp [hc]
  have hcb2 : (cd == 0) = false := by simp [hc]
  have ks := fun (W : World) => sameR 0 0 0 0 0 0 false [] none none 0 0 0 W (Sl.nil _ _ _ _) (Sl.nil _ _ _ _) rfl (by decide)
  have KS := hide ks
  clear ks
  have KC := hide kc
  have K1 := hide k1
  have K2 := hide k2
  clear kc k1 k2 h0 hcd hl hst ey eg gm
  have HB := Below.refl w.heap.size w
  obtain ⟨w1, eW1, sW1, rc, hb⟩ := box w #[.int .i64 P.m.r, .int .i64 P.m.m, .slice X.A1 X.n1 X.c1, .slice X.A2 X.n2 X.c2, .slice X.A3 X.n3 X.c3, .slice X.A4 X.n4 X.c4, .int .i64 P.m.p, .int .i64 P.m.s, .int .i64 P.m.f, .int .i64 P.l.num, .int .i64 P.l.den, .int .i64 P.l.sup, .int .i64 P.l.fed, .int .i64 P.l.ohm, .int .i64 P.l.bon, .int .i64 P.l.boff, .int .i64 P.l.bohm, .int .i64 P.g, .int .i64 P.d, .int .i64 P.y, .slice X.B1 X.m1 X.d1, .slice X.B2 X.m2 X.d2, .slice X.B3 X.m3 X.d3, .int .i64 P.wi, .int .i64 P.sw] 35 (g := w.heap.size) rfl HB (by have := HB.size; omega)
  have Qrc : Hid (w.heap.size ≤ w.heap.size) := Lib.hid (by have := HB.size; omega)
  replace HB := hb
  clear hb
  obtain ⟨w2, eW2, sW2, rs, hb⟩ := box w1 #[.int .i64 s.fd, .int .i64 s.fq, .int .i64 s.v, .bool s.b, .int .i64 s.po, .int .i64 s.sp, .slice YA yn yc, .int .i64 s.tn] 47 (g := w.heap.size + 1) sW1 HB (by have := HB.size; omega)
  have Qrs : Hid (w.heap.size ≤ w.heap.size + 1 ∧ w.heap.size < w.heap.size + 1) := Lib.hid ⟨by have := HB.size; omega, by have := rc.lt; omega⟩
  replace rc := rc.al eW2
  replace HB := hb
  clear hb
  obtain ⟨w3, eW3, sW3, ri, hb⟩ := box w2 #[.int .i64 z.per, .bool z.b0, .bool z.b1, .bool z.b2, .bool z.b3, .bool z.b4, .bool z.b5, .slice GA gn gc, .int .i64 z.ld, .int .i64 z.amb, .bool z.k0, .bool z.k1, .bool z.k2, .bool z.k3, .bool z.k4, .bool z.k5, .bool z.de, .bool z.nb] 53 (g := w.heap.size + 1 + 1) sW2 HB (by have := HB.size; omega)
  have Qri : Hid (w.heap.size ≤ w.heap.size + 1 + 1 ∧ w.heap.size < w.heap.size + 1 + 1 ∧ w.heap.size + 1 < w.heap.size + 1 + 1) := Lib.hid ⟨by have := HB.size; omega, by have := rc.lt; omega, by have := rs.lt; omega⟩
  replace rc := rc.al eW3
  replace rs := rs.al eW3
  replace HB := hb
  clear hb
  go_enter Tryz.func4, Tryz.ntmps4
  go_wp2_with fail
  with_reducible refine (awakeP_walk _).mono ?_
  rintro e w4 ⟨rfl, hb⟩
  replace rc := rc.below hb rc.lt
  replace rs := rs.below hb rs.lt
  replace ri := ri.below hb ri.lt
  replace HB := HB.trans (hb.mono HB.size)
  clear hb
  clear eW1 sW1 eW2 sW2 eW3 sW3
  go_wp2_with (first | (refine wpList_load_row rfl 35 _ rfl (w.heap.size) rfl _ _ _ _ rc Tryz.underlying35 rfl (by kernel_rfl) ?_) | (refine wpList_load_rowG 35 _ rfl (by go_simp) (w.heap.size) rfl _ _ _ _ rc Tryz.underlying35 rfl (by kernel_rfl) ?_) | (refine wpList_load_row rfl 47 _ rfl (w.heap.size + 1) rfl _ _ _ _ rs Tryz.underlying47 rfl (by kernel_rfl) ?_) | (refine wpList_load_rowG 47 _ rfl (by go_simp) (w.heap.size + 1) rfl _ _ _ _ rs Tryz.underlying47 rfl (by kernel_rfl) ?_) | (refine wpList_load_row rfl 53 _ rfl (w.heap.size + 1 + 1) rfl _ _ _ _ ri Tryz.underlying53 rfl (by kernel_rfl) ?_) | (refine wpList_load_rowG 53 _ rfl (by go_simp) (w.heap.size + 1 + 1) rfl _ _ _ _ ri Tryz.underlying53 rfl (by kernel_rfl) ?_))
  with_reducible refine ((unhide KL) _).mono ?_
  rintro e w5 ⟨rfl, hb⟩
  replace rc := rc.below hb rc.lt
  replace rs := rs.below hb rs.lt
  replace ri := ri.below hb ri.lt
  replace HB := HB.trans (hb.mono HB.size)
  clear hb
  go_wp2_with (first | (refine wpList_load_row rfl 35 _ rfl (w.heap.size) rfl _ _ _ _ rc Tryz.underlying35 rfl (by kernel_rfl) ?_) | (refine wpList_load_row rfl 47 _ rfl (w.heap.size + 1) rfl _ _ _ _ rs Tryz.underlying47 rfl (by kernel_rfl) ?_) | (refine wpList_load_row rfl 53 _ rfl (w.heap.size + 1 + 1) rfl _ _ _ _ ri Tryz.underlying53 rfl (by kernel_rfl) ?_))
  with_reducible refine ((unhide K1) _ ((L.below HB).more HB.size) ((SG.below HB).more HB.size)).mono ?_
  rintro e w6 ⟨rfl, hb⟩
  replace rc := rc.below hb rc.lt
  replace rs := rs.below hb rs.lt
  replace ri := ri.below hb ri.lt
  replace HB := HB.trans (hb.mono HB.size)
  clear hb
  obtain ⟨w7, eW7, sW7, rt, hb⟩ := box w6 #[.int .i64 0, .int .i64 0, .int .i64 0, .bool false, .int .i64 0, .int .i64 0, .slice none 0 0, .int .i64 0] 47 (g := w6.heap.size) rfl HB (by have := HB.size; omega)
  have Qrt : Hid (w.heap.size ≤ w6.heap.size ∧ w.heap.size < w6.heap.size ∧ w.heap.size + 1 < w6.heap.size ∧ w.heap.size + 1 + 1 < w6.heap.size) := Lib.hid ⟨by have := HB.size; omega, by have := rc.lt; omega, by have := rs.lt; omega, by have := ri.lt; omega⟩
  replace rc := rc.al eW7
  replace rs := rs.al eW7
  replace ri := ri.al eW7
  replace HB := hb
  clear hb
  have qrc := Qrc.out
  have qrs := Qrs.out
  have qri := Qri.out
  have qrt := Qrt.out
  have rto7 := rt
  obtain ⟨w8, eW8, sW8, hr, hb⟩ := rowX rt #[.int .i64 0, .int .i64 0, .int .i64 0, .bool false, .int .i64 0, .int .i64 0, .slice none 0 0, .int .i64 0] (n := w6.heap.size + 1) sW7 HB (by omega)
  replace rc := rc.rowTo eW8 (by omega)
  replace rs := rs.rowTo eW8 (by omega)
  replace ri := ri.rowTo eW8 (by omega)
  replace rt := hr
  replace HB := hb
  clear hb hr qrc qrs qri qrt
  go_wp2_with (first | (refine wpList_load_row rfl 35 _ rfl (w.heap.size) rfl _ _ _ _ rc Tryz.underlying35 rfl (by kernel_rfl) ?_) | (refine wpList_store_row rfl 47 _ _ rfl (w6.heap.size) #[.int .i64 0, .int .i64 0, .int .i64 0, .bool false, .int .i64 0, .int .i64 0, .slice none 0 0, .int .i64 0] rfl rfl _ _ rto7 (by kernel_rfl) (by kernel_rfl) (by kernel_rfl) ?_; try simp only [eW8]))
  with_reducible refine ((unhide KC) _ ((L.below HB).more HB.size)).mono ?_
  rintro e w9 ⟨rfl, hb⟩
  replace rc := rc.below hb rc.lt
  replace rs := rs.below hb rs.lt
  replace ri := ri.below hb ri.lt
  replace rt := rt.below hb rt.lt
  replace HB := HB.trans (hb.mono HB.size)
  clear hb
  clear rto7 eW7 sW7 eW8 sW8
  go_wp2_with (first | (refine wpList_load_row rfl 47 _ rfl (w.heap.size + 1) rfl _ _ _ _ rs Tryz.underlying47 rfl (by kernel_rfl) ?_) | (refine wpList_load_row rfl 53 _ rfl (w.heap.size + 1 + 1) rfl _ _ _ _ ri Tryz.underlying53 rfl (by kernel_rfl) ?_))
  with_reducible refine ((unhide K2) _ ((SG.below HB).more HB.size)).mono ?_
  rintro e w10 ⟨rfl, hb⟩
  replace rc := rc.below hb rc.lt
  replace rs := rs.below hb rs.lt
  replace ri := ri.below hb ri.lt
  replace rt := rt.below hb rt.lt
  replace HB := HB.trans (hb.mono HB.size)
  clear hb
  go_wp2_with (first | (refine wpList_load_row rfl 47 _ rfl (w6.heap.size) rfl _ _ _ _ rt Tryz.underlying47 rfl (by kernel_rfl) ?_))
  with_reducible refine ((unhide KS) _).mono ?_
  rintro e w11 ⟨rfl, hb⟩
  replace rc := rc.below hb rc.lt
  replace rs := rs.below hb rs.lt
  replace ri := ri.below hb ri.lt
  replace rt := rt.below hb rt.lt
  replace HB := HB.trans (hb.mono HB.size)
  clear hb
  go_wp2_with (first | (go_at_call 10; (with_reducible refine (I.num_iface _ _).mono ?_); rintro e w' ⟨rfl, rfl⟩))
  go_ret
  exact ⟨rfl, HB⟩
set_option maxRecDepth 100000 in
set_option maxHeartbeats 6400000 in
theorem psteps_ok (P : Pc) (X : Pa) (s : Ps) (YA : Option Addr) (yn yc : Nat) (z : Pi) (GA : Option Addr) (gn gc : Nat) (w : World) (L : Py w w.heap.size P X) (SY : Sl w w.heap.size 1 YA (rows s.h)) (ey : yn = s.h.length) (SG : Sl w w.heap.size 3 GA (z.es.map I.Ed.row)) (eg : gn = z.es.length) (hl : lgP X yn gn = false) (hc : stCode P s z = 0) :
    Calls Tryz.prog 4 #[.agg #[.int .i64 P.m.r, .int .i64 P.m.m, .slice X.A1 X.n1 X.c1, .slice X.A2 X.n2 X.c2, .slice X.A3 X.n3 X.c3, .slice X.A4 X.n4 X.c4, .int .i64 P.m.p, .int .i64 P.m.s, .int .i64 P.m.f, .int .i64 P.l.num, .int .i64 P.l.den, .int .i64 P.l.sup, .int .i64 P.l.fed, .int .i64 P.l.ohm, .int .i64 P.l.bon, .int .i64 P.l.boff, .int .i64 P.l.bohm, .int .i64 P.g, .int .i64 P.d, .int .i64 P.y, .slice X.B1 X.m1 X.d1, .slice X.B2 X.m2 X.d2, .slice X.B3 X.m3 X.d3, .int .i64 P.wi, .int .i64 P.sw], .agg #[.int .i64 s.fd, .int .i64 s.fq, .int .i64 s.v, .bool s.b, .int .i64 s.po, .int .i64 s.sp, .slice YA yn yc, .int .i64 s.tn], .agg #[.int .i64 z.per, .bool z.b0, .bool z.b1, .bool z.b2, .bool z.b3, .bool z.b4, .bool z.b5, .slice GA gn gc, .int .i64 z.ld, .int .i64 z.amb, .bool z.k0, .bool z.k1, .bool z.k2, .bool z.k3, .bool z.k4, .bool z.k5, .bool z.de, .bool z.nb]] w fun e w' => e = .returned (.bool true) ∧ Below w.heap.size w w' := by
  have kl := fun W => large_walkP P X s YA yn yc z GA gn gc W
  simp only [hl] at kl
  have KL := hide kl
  clear kl
  have gm : gn ≤ 1000000 := by have := lgP_gn hl; omega
  obtain ⟨h0, hi⟩ := st_ok hc
  have hin : inCode s z = 0 := by unfold stCode at hc; rw [if_neg (by omega)] at hc; exact hc
  have kc := fun (W : World) (h : Py W W.heap.size P X) => rckR P X W h
  simp only [h0] at kc
  have k1 := fun (W : World) (h : Py W W.heap.size P X) (hy : Sl W W.heap.size 1 YA (rows s.h)) (hg : Sl W W.heap.size 3 GA (z.es.map I.Ed.row)) => pstepM_k P X s YA yn yc z GA gn gc W h hy ey hg eg gm hc
  have k2 := fun (W : World) (hg : Sl W W.heap.size 3 GA (z.es.map I.Ed.row)) => rinP s YA yn yc z GA gn gc W ey hg eg gm
  simp only [hin] at k2
  have k3 := fun (W : World) (h : Py W W.heap.size P X) (hy : Sl W W.heap.size 1 YA (rows s.h)) (hg : Sl W W.heap.size 3 GA (z.es.map I.Ed.row)) => rstepP P X s YA yn yc z GA gn gc W h hy ey hg eg gm hc
  have hlen : (pxS P s z).h.length = 3 := pxS_len
  obtain ⟨nx, hnx⟩ : ∃ x, pxS P s z = x := ⟨_, rfl⟩
  simp only [hnx] at k1 k3 hlen
  have ks := fun (W : World) (A B : Option Addr) (ca cb : Nat) (h1 : Sl W W.heap.size 1 A (rows nx.h)) (h2 : Sl W W.heap.size 1 B (rows nx.h)) => sameR nx.fd nx.fq nx.v nx.po nx.sp nx.tn nx.b nx.h A B 3 ca cb W h1 h2 hlen.symm (by omega)
  have KS := hide ks
  have KC := hide kc
  have K1 := hide k1
  have K2 := hide k2
  have K3 := hide k3
  clear kc k1 k2 k3 ks hc hl hnx hlen hin hi h0 ey eg gm
  have HB := Below.refl w.heap.size w
  obtain ⟨w1, eW1, sW1, rc, hb⟩ := box w #[.int .i64 P.m.r, .int .i64 P.m.m, .slice X.A1 X.n1 X.c1, .slice X.A2 X.n2 X.c2, .slice X.A3 X.n3 X.c3, .slice X.A4 X.n4 X.c4, .int .i64 P.m.p, .int .i64 P.m.s, .int .i64 P.m.f, .int .i64 P.l.num, .int .i64 P.l.den, .int .i64 P.l.sup, .int .i64 P.l.fed, .int .i64 P.l.ohm, .int .i64 P.l.bon, .int .i64 P.l.boff, .int .i64 P.l.bohm, .int .i64 P.g, .int .i64 P.d, .int .i64 P.y, .slice X.B1 X.m1 X.d1, .slice X.B2 X.m2 X.d2, .slice X.B3 X.m3 X.d3, .int .i64 P.wi, .int .i64 P.sw] 35 (g := w.heap.size) rfl HB (by have := HB.size; omega)
  have Qrc : Hid (w.heap.size ≤ w.heap.size) := Lib.hid (by have := HB.size; omega)
  replace HB := hb
  clear hb
  obtain ⟨w2, eW2, sW2, rs, hb⟩ := box w1 #[.int .i64 s.fd, .int .i64 s.fq, .int .i64 s.v, .bool s.b, .int .i64 s.po, .int .i64 s.sp, .slice YA yn yc, .int .i64 s.tn] 47 (g := w.heap.size + 1) sW1 HB (by have := HB.size; omega)
  have Qrs : Hid (w.heap.size ≤ w.heap.size + 1 ∧ w.heap.size < w.heap.size + 1) := Lib.hid ⟨by have := HB.size; omega, by have := rc.lt; omega⟩
  replace rc := rc.al eW2
  replace HB := hb
  clear hb
  obtain ⟨w3, eW3, sW3, ri, hb⟩ := box w2 #[.int .i64 z.per, .bool z.b0, .bool z.b1, .bool z.b2, .bool z.b3, .bool z.b4, .bool z.b5, .slice GA gn gc, .int .i64 z.ld, .int .i64 z.amb, .bool z.k0, .bool z.k1, .bool z.k2, .bool z.k3, .bool z.k4, .bool z.k5, .bool z.de, .bool z.nb] 53 (g := w.heap.size + 1 + 1) sW2 HB (by have := HB.size; omega)
  have Qri : Hid (w.heap.size ≤ w.heap.size + 1 + 1 ∧ w.heap.size < w.heap.size + 1 + 1 ∧ w.heap.size + 1 < w.heap.size + 1 + 1) := Lib.hid ⟨by have := HB.size; omega, by have := rc.lt; omega, by have := rs.lt; omega⟩
  replace rc := rc.al eW3
  replace rs := rs.al eW3
  replace HB := hb
  clear hb
  go_enter Tryz.func4, Tryz.ntmps4
  go_wp2_with fail
  with_reducible refine (awakeP_walk _).mono ?_
  rintro e w4 ⟨rfl, hb⟩
  replace rc := rc.below hb rc.lt
  replace rs := rs.below hb rs.lt
  replace ri := ri.below hb ri.lt
  replace HB := HB.trans (hb.mono HB.size)
  clear hb
  clear eW1 sW1 eW2 sW2 eW3 sW3
  go_wp2_with (first | (refine wpList_load_row rfl 35 _ rfl (w.heap.size) rfl _ _ _ _ rc Tryz.underlying35 rfl (by kernel_rfl) ?_) | (refine wpList_load_rowG 35 _ rfl (by go_simp) (w.heap.size) rfl _ _ _ _ rc Tryz.underlying35 rfl (by kernel_rfl) ?_) | (refine wpList_load_row rfl 47 _ rfl (w.heap.size + 1) rfl _ _ _ _ rs Tryz.underlying47 rfl (by kernel_rfl) ?_) | (refine wpList_load_rowG 47 _ rfl (by go_simp) (w.heap.size + 1) rfl _ _ _ _ rs Tryz.underlying47 rfl (by kernel_rfl) ?_) | (refine wpList_load_row rfl 53 _ rfl (w.heap.size + 1 + 1) rfl _ _ _ _ ri Tryz.underlying53 rfl (by kernel_rfl) ?_) | (refine wpList_load_rowG 53 _ rfl (by go_simp) (w.heap.size + 1 + 1) rfl _ _ _ _ ri Tryz.underlying53 rfl (by kernel_rfl) ?_))
  with_reducible refine ((unhide KL) _).mono ?_
  rintro e w5 ⟨rfl, hb⟩
  replace rc := rc.below hb rc.lt
  replace rs := rs.below hb rs.lt
  replace ri := ri.below hb ri.lt
  replace HB := HB.trans (hb.mono HB.size)
  clear hb
  go_wp2_with (first | (refine wpList_load_row rfl 35 _ rfl (w.heap.size) rfl _ _ _ _ rc Tryz.underlying35 rfl (by kernel_rfl) ?_) | (refine wpList_load_row rfl 47 _ rfl (w.heap.size + 1) rfl _ _ _ _ rs Tryz.underlying47 rfl (by kernel_rfl) ?_) | (refine wpList_load_row rfl 53 _ rfl (w.heap.size + 1 + 1) rfl _ _ _ _ ri Tryz.underlying53 rfl (by kernel_rfl) ?_))
  with_reducible refine ((unhide K1) _ ((L.below HB).more HB.size) ((SY.below HB).more HB.size) ((SG.below HB).more HB.size)).mono ?_
  rintro e w6 ⟨⟨A, ca, rfl, SA, fA⟩, hb⟩
  replace rc := rc.below hb rc.lt
  replace rs := rs.below hb rs.lt
  replace ri := ri.below hb ri.lt
  replace HB := HB.trans (hb.mono HB.size)
  clear hb
  clear fA
  have HS := Below.refl w6.heap.size w6
  obtain ⟨w7, eW7, sW7, rt, hb⟩ := box w6 #[.int .i64 0, .int .i64 0, .int .i64 0, .bool false, .int .i64 0, .int .i64 0, .slice none 0 0, .int .i64 0] 47 (g := w6.heap.size) rfl HB (by have := HB.size; omega)
  have Qrt : Hid (w.heap.size ≤ w6.heap.size ∧ w6.heap.size ≤ w6.heap.size ∧ w.heap.size < w6.heap.size ∧ w.heap.size + 1 < w6.heap.size ∧ w.heap.size + 1 + 1 < w6.heap.size) := Lib.hid ⟨by have := HB.size; omega, by have := HS.size; omega, by have := rc.lt; omega, by have := rs.lt; omega, by have := ri.lt; omega⟩
  replace rc := rc.al eW7
  replace rs := rs.al eW7
  replace ri := ri.al eW7
  replace HS : Below w6.heap.size w6 w7 := eW7 ▸ HS.alloc HS.size _
  replace HB := hb
  clear hb
  have qrc := Qrc.out
  have qrs := Qrs.out
  have qri := Qri.out
  have qrt := Qrt.out
  have uHS := HS.size
  have rto7 := rt
  obtain ⟨w8, eW8, sW8, hr, hb⟩ := rowX rt #[.int .i64 nx.fd, .int .i64 nx.fq, .int .i64 nx.v, .bool nx.b, .int .i64 nx.po, .int .i64 nx.sp, .slice A 3 ca, .int .i64 nx.tn] (n := w6.heap.size + 1) sW7 HB (by omega)
  replace rc := rc.rowTo eW8 (by omega)
  replace rs := rs.rowTo eW8 (by omega)
  replace ri := ri.rowTo eW8 (by omega)
  replace rt := hr
  have HSo := HS
  replace HS : Below w6.heap.size w6 w8 := eW8 ▸ below_row HS (by omega)
  replace HB := hb
  clear hb hr qrc qrs qri qrt uHS
  go_wp2_with (first | (refine wpList_load_row rfl 35 _ rfl (w.heap.size) rfl _ _ _ _ rc Tryz.underlying35 rfl (by kernel_rfl) ?_) | (refine wpList_store_row rfl 47 _ _ rfl (w6.heap.size) #[.int .i64 nx.fd, .int .i64 nx.fq, .int .i64 nx.v, .bool nx.b, .int .i64 nx.po, .int .i64 nx.sp, .slice A 3 ca, .int .i64 nx.tn] rfl rfl _ _ rto7 (by kernel_rfl) (by kernel_rfl) (by kernel_rfl) ?_; try simp only [eW8]))
  with_reducible refine ((unhide KC) _ ((L.below HB).more HB.size)).mono ?_
  rintro e w9 ⟨rfl, hb⟩
  replace rc := rc.below hb rc.lt
  replace rs := rs.below hb rs.lt
  replace ri := ri.below hb ri.lt
  replace rt := rt.below hb rt.lt
  replace HB := HB.trans (hb.mono HB.size)
  replace HS := HS.trans (hb.mono HS.size)
  clear hb
  clear rto7 eW7 sW7 eW8 sW8
  go_wp2_with (first | (refine wpList_load_row rfl 47 _ rfl (w.heap.size + 1) rfl _ _ _ _ rs Tryz.underlying47 rfl (by kernel_rfl) ?_) | (refine wpList_load_row rfl 53 _ rfl (w.heap.size + 1 + 1) rfl _ _ _ _ ri Tryz.underlying53 rfl (by kernel_rfl) ?_))
  with_reducible refine ((unhide K2) _ ((SG.below HB).more HB.size)).mono ?_
  rintro e w10 ⟨rfl, hb⟩
  replace rc := rc.below hb rc.lt
  replace rs := rs.below hb rs.lt
  replace ri := ri.below hb ri.lt
  replace rt := rt.below hb rt.lt
  replace HB := HB.trans (hb.mono HB.size)
  replace HS := HS.trans (hb.mono HS.size)
  clear hb
  go_wp2_with fail
  obtain ⟨w11, hw, sw⟩ := drewX w10
  replace rc : Blk w11 (w.heap.size) 35 #[.int .i64 P.m.r, .int .i64 P.m.m, .slice X.A1 X.n1 X.c1, .slice X.A2 X.n2 X.c2, .slice X.A3 X.n3 X.c3, .slice X.A4 X.n4 X.c4, .int .i64 P.m.p, .int .i64 P.m.s, .int .i64 P.m.f, .int .i64 P.l.num, .int .i64 P.l.den, .int .i64 P.l.sup, .int .i64 P.l.fed, .int .i64 P.l.ohm, .int .i64 P.l.bon, .int .i64 P.l.boff, .int .i64 P.l.bohm, .int .i64 P.g, .int .i64 P.d, .int .i64 P.y, .slice X.B1 X.m1 X.d1, .slice X.B2 X.m2 X.d2, .slice X.B3 X.m3 X.d3, .int .i64 P.wi, .int .i64 P.sw] := hw ▸ rc.drew
  have zrc := rc.lt
  replace rs : Blk w11 (w.heap.size + 1) 47 #[.int .i64 s.fd, .int .i64 s.fq, .int .i64 s.v, .bool s.b, .int .i64 s.po, .int .i64 s.sp, .slice YA yn yc, .int .i64 s.tn] := hw ▸ rs.drew
  have zrs := rs.lt
  replace ri : Blk w11 (w.heap.size + 1 + 1) 53 #[.int .i64 z.per, .bool z.b0, .bool z.b1, .bool z.b2, .bool z.b3, .bool z.b4, .bool z.b5, .slice GA gn gc, .int .i64 z.ld, .int .i64 z.amb, .bool z.k0, .bool z.k1, .bool z.k2, .bool z.k3, .bool z.k4, .bool z.k5, .bool z.de, .bool z.nb] := hw ▸ ri.drew
  have zri := ri.lt
  replace rt : Blk w11 (w6.heap.size) 47 #[.int .i64 nx.fd, .int .i64 nx.fq, .int .i64 nx.v, .bool nx.b, .int .i64 nx.po, .int .i64 nx.sp, .slice A 3 ca, .int .i64 nx.tn] := hw ▸ rt.drew
  have zrt := rt.lt
  replace HB : Below w.heap.size w w11 := hw ▸ HB.drew
  replace HS : Below w6.heap.size w6 w11 := hw ▸ HS.drew
  refine wp_region_multi (fun i => [7, 8, 9, 10].contains i) (fun i => [7, 8].contains i) w11.heap.size (by kernel_rfl) ?_
  change wpX _ _ _ _ _ _ _ _ _ _ w10.drew
  rw [hw]
  clear hw sw
  have HR := Below.refl w11.heap.size w11
  apply wpX_take (i := 0) rfl rfl (by kernel_rfl) (fun _ _ _ h => h)
  · intro w' hb
    unfold yv
    go_simp
    simp only [yvUpon]
    exact ⟨trivial, rfl⟩
  · go_simp
    exact rfl
  apply wpX_take (i := 1) rfl rfl (by kernel_rfl) (fun _ _ _ h => h)
  · intro w' hb
    unfold yv
    go_simp
    simp only [yvUpon]
    exact ⟨trivial, rfl⟩
  · go_simp
    exact rfl
  apply wpX_take (i := 2) rfl rfl (by kernel_rfl) (fun _ _ _ h => h)
  · intro w' hb
    unfold yv
    go_simp
    simp only [yvUpon]
    exact ⟨trivial, rfl⟩
  · go_simp
    exact rfl
  apply wpX_takeG (i := 3) rfl (by go_simp) (by kernel_rfl) (fun _ _ _ h => h)
  · intro w' hb
    exact yv_load_row 47 _ rfl (w6.heap.size) rfl _ _ _ _ (rt.below hb zrt) Tryz.underlying47 rfl (by kernel_rfl)
  · go_simp
    exact rfl
  apply wpX_takeG (i := 4) rfl (by go_simp) (by kernel_rfl) (fun _ _ _ h => h)
  · intro w' hb
    exact yv_load_row 35 _ rfl (w.heap.size) rfl _ _ _ _ (rc.below hb zrc) Tryz.underlying35 rfl (by kernel_rfl)
  · go_simp
    exact rfl
  apply wpX_takeG (i := 5) rfl (by go_simp) (by kernel_rfl) (fun _ _ _ h => h)
  · intro w' hb
    exact yv_load_row 47 _ rfl (w.heap.size + 1) rfl _ _ _ _ (rs.below hb zrs) Tryz.underlying47 rfl (by kernel_rfl)
  · go_simp
    exact rfl
  apply wpX_takeG (i := 6) rfl (by go_simp) (by kernel_rfl) (fun _ _ _ h => h)
  · intro w' hb
    exact yv_load_row 53 _ rfl (w.heap.size + 1 + 1) rfl _ _ _ _ (ri.below hb zri) Tryz.underlying53 rfl (by kernel_rfl)
  · go_simp
    exact rfl
  apply wpX_oneG (i := 7) rfl (by go_simp) (by kernel_rfl)
  unfold mild
  go_simp
  simp only [mildUpon]
  refine ⟨trivial, ?_⟩
  with_reducible refine ((unhide K3) _ ((L.below HB).more HB.size) ((SY.below HB).more HB.size) ((SG.below HB).more HB.size)).mono ?_
  rintro e w12 ⟨⟨B, cb, rfl, SB⟩, hb⟩
  refine ⟨_, rfl, hb.mono HR.size, ?_⟩
  replace rc := rc.below hb rc.lt
  replace rs := rs.below hb rs.lt
  replace ri := ri.below hb ri.lt
  replace rt := rt.below hb rt.lt
  replace HB := HB.trans (hb.mono HB.size)
  replace HS := HS.trans (hb.mono HS.size)
  replace HR := HR.trans (hb.mono HR.size)
  clear hb
  have HT := Below.refl w12.heap.size w12
  apply wpX_oneG (i := 8) rfl (by go_simp) (by kernel_rfl)
  unfold mild
  go_simp
  simp only [mildUpon]
  refine ⟨trivial, ?_⟩
  with_reducible refine ((unhide KS) _ A B ca cb ((SA.below HS).more HS.size) ((SB.below HT).more HT.size)).mono ?_
  rintro e w13 ⟨rfl, hb⟩
  refine ⟨_, rfl, hb.mono HR.size, ?_⟩
  replace rc := rc.below hb rc.lt
  replace rs := rs.below hb rs.lt
  replace ri := ri.below hb ri.lt
  replace rt := rt.below hb rt.lt
  replace HB := HB.trans (hb.mono HB.size)
  replace HS := HS.trans (hb.mono HS.size)
  replace HR := HR.trans (hb.mono HR.size)
  replace HT := HT.trans (hb.mono HT.size)
  clear hb
  refine wpX_rest (k := 9) (by kernel_rfl) ?_
  simp only [List.drop_succ_cons, List.drop_zero]
  go_wp2
  go_ret
  exact ⟨rfl, HB⟩
theorem psteps_walk (P : Pc) (X : Pa) (s : Ps) (YA : Option Addr) (yn yc : Nat) (z : Pi) (GA : Option Addr) (gn gc : Nat) (w : World) (L : Py w w.heap.size P X) (SY : Sl w w.heap.size 1 YA (rows s.h)) (ey : yn = s.h.length) (SG : Sl w w.heap.size 3 GA (z.es.map I.Ed.row)) (eg : gn = z.es.length) :
    Calls Tryz.prog 4 #[.agg #[.int .i64 P.m.r, .int .i64 P.m.m, .slice X.A1 X.n1 X.c1, .slice X.A2 X.n2 X.c2, .slice X.A3 X.n3 X.c3, .slice X.A4 X.n4 X.c4, .int .i64 P.m.p, .int .i64 P.m.s, .int .i64 P.m.f, .int .i64 P.l.num, .int .i64 P.l.den, .int .i64 P.l.sup, .int .i64 P.l.fed, .int .i64 P.l.ohm, .int .i64 P.l.bon, .int .i64 P.l.boff, .int .i64 P.l.bohm, .int .i64 P.g, .int .i64 P.d, .int .i64 P.y, .slice X.B1 X.m1 X.d1, .slice X.B2 X.m2 X.d2, .slice X.B3 X.m3 X.d3, .int .i64 P.wi, .int .i64 P.sw], .agg #[.int .i64 s.fd, .int .i64 s.fq, .int .i64 s.v, .bool s.b, .int .i64 s.po, .int .i64 s.sp, .slice YA yn yc, .int .i64 s.tn], .agg #[.int .i64 z.per, .bool z.b0, .bool z.b1, .bool z.b2, .bool z.b3, .bool z.b4, .bool z.b5, .slice GA gn gc, .int .i64 z.ld, .int .i64 z.amb, .bool z.k0, .bool z.k1, .bool z.k2, .bool z.k3, .bool z.k4, .bool z.k5, .bool z.de, .bool z.nb]] w fun e w' => e = .returned (.bool true) ∧ Below w.heap.size w w' := by
  cases hl : lgP X yn gn with
  | true => exact psteps_large P X s YA yn yc z GA gn gc w hl
  | false =>
    by_cases h0 : plCode P = 0
    · by_cases h1 : inCode s z = 0
      · exact psteps_ok P X s YA yn yc z GA gn gc w L SY ey SG eg hl (by unfold stCode; rw [if_neg (by omega)]; exact h1)
      · exact psteps_bad2 P X s YA yn yc z GA gn gc w L ey SG eg hl h0 h1
    · exact psteps_bad1 P X s YA yn yc z GA gn gc w L ey SG eg hl h0
end Go.Proofs.YtpfkiohknpeifaaGreat
