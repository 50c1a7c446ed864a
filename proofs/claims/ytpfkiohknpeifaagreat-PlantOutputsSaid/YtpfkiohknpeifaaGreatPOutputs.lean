/- The walk of the statement PlantOutputs. -/
import Derived.Test.YtpfkiohknpeifaaGreatPAwake
import Derived.Test.YtpfkiohknpeifaaGreatPLarge
import Derived.Test.YtpfkiohknpeifaaGreatPLaws
import Derived.Test.YtpfkiohknpeifaaGreatPPChkR
import Derived.Test.YtpfkiohknpeifaaGreatPRRef
import Derived.Test.YtpfkiohknpeifaaGreatPSame
import Derived.Test.YtpfkiohknpeifaaGreatMultiG
import Derived.Test.YtpfkiohknpeifaaGreatPSameO
namespace Go.Proofs.YtpfkiohknpeifaaGreat
open Go.RowKit
set_option maxRecDepth 100000 in
set_option maxHeartbeats 6400000 in
theorem pouts_large (P : Pc) (X : Pa) (s : Ps) (YA : Option Addr) (yn yc : Nat) (w : World) (hl : lgP X yn 0 = true) :
    Calls Tryz.prog 5 #[.agg #[.int .i64 P.m.r, .int .i64 P.m.m, .slice X.A1 X.n1 X.c1, .slice X.A2 X.n2 X.c2, .slice X.A3 X.n3 X.c3, .slice X.A4 X.n4 X.c4, .int .i64 P.m.p, .int .i64 P.m.s, .int .i64 P.m.f, .int .i64 P.l.num, .int .i64 P.l.den, .int .i64 P.l.sup, .int .i64 P.l.fed, .int .i64 P.l.ohm, .int .i64 P.l.bon, .int .i64 P.l.boff, .int .i64 P.l.bohm, .int .i64 P.g, .int .i64 P.d, .int .i64 P.y, .slice X.B1 X.m1 X.d1, .slice X.B2 X.m2 X.d2, .slice X.B3 X.m3 X.d3, .int .i64 P.wi, .int .i64 P.sw], .agg #[.int .i64 s.fd, .int .i64 s.fq, .int .i64 s.v, .bool s.b, .int .i64 s.po, .int .i64 s.sp, .slice YA yn yc, .int .i64 s.tn]] w fun e w' => e = .returned (.bool true) ∧ Below w.heap.size w w' := by
  have kl := fun W => large_walkP P X s YA yn yc ⟨0, false, false, false, false, false, false, [], 0, 0, false, false, false, false, false, false, false, false⟩ none 0 0 W
  simp only [hl] at kl
  have KL := hide kl
  clear kl
  clear hl
  have HB := Below.refl w.heap.size w
  obtain ⟨w1, eW1, sW1, rc, hb⟩ := box w #[.int .i64 P.m.r, .int .i64 P.m.m, .slice X.A1 X.n1 X.c1, .slice X.A2 X.n2 X.c2, .slice X.A3 X.n3 X.c3, .slice X.A4 X.n4 X.c4, .int .i64 P.m.p, .int .i64 P.m.s, .int .i64 P.m.f, .int .i64 P.l.num, .int .i64 P.l.den, .int .i64 P.l.sup, .int .i64 P.l.fed, .int .i64 P.l.ohm, .int .i64 P.l.bon, .int .i64 P.l.boff, .int .i64 P.l.bohm, .int .i64 P.g, .int .i64 P.d, .int .i64 P.y, .slice X.B1 X.m1 X.d1, .slice X.B2 X.m2 X.d2, .slice X.B3 X.m3 X.d3, .int .i64 P.wi, .int .i64 P.sw] 35 (g := w.heap.size) rfl HB (by have := HB.size; omega)
  have Qrc : Hid (w.heap.size ≤ w.heap.size) := Lib.hid (by have := HB.size; omega)
  replace HB := hb
  clear hb
  obtain ⟨w2, eW2, sW2, rs, hb⟩ := box w1 #[.int .i64 s.fd, .int .i64 s.fq, .int .i64 s.v, .bool s.b, .int .i64 s.po, .int .i64 s.sp, .slice YA yn yc, .int .i64 s.tn] 47 (g := w.heap.size + 1) sW1 HB (by have := HB.size; omega)
  have Qrs : Hid (w.heap.size ≤ w.heap.size + 1 ∧ w.heap.size < w.heap.size + 1) := Lib.hid ⟨by have := HB.size; omega, by have := rc.lt; omega⟩
  replace rc := rc.al eW2
  replace HB := hb
  clear hb
  go_enter Tryz.func5, Tryz.ntmps5
  go_wp2_with fail
  with_reducible refine (awakeP_walk _).mono ?_
  rintro e w3 ⟨rfl, hb⟩
  replace rc := rc.below hb rc.lt
  replace rs := rs.below hb rs.lt
  replace HB := HB.trans (hb.mono HB.size)
  clear hb
  clear eW1 sW1 eW2 sW2
  go_wp2_with (first | (refine wpList_load_row rfl 35 _ rfl (w.heap.size) rfl _ _ _ _ rc Tryz.underlying35 rfl (by kernel_rfl) ?_) | (refine wpList_load_rowG 35 _ rfl (by go_simp) (w.heap.size) rfl _ _ _ _ rc Tryz.underlying35 rfl (by kernel_rfl) ?_) | (refine wpList_load_row rfl 47 _ rfl (w.heap.size + 1) rfl _ _ _ _ rs Tryz.underlying47 rfl (by kernel_rfl) ?_) | (refine wpList_load_rowG 47 _ rfl (by go_simp) (w.heap.size + 1) rfl _ _ _ _ rs Tryz.underlying47 rfl (by kernel_rfl) ?_))
  with_reducible refine ((unhide KL) _).mono ?_
  rintro e w4 ⟨rfl, hb⟩
  replace rc := rc.below hb rc.lt
  replace rs := rs.below hb rs.lt
  replace HB := HB.trans (hb.mono HB.size)
  clear hb
  go_wp2_with fail
  with_reducible refine (awakeP_walk _).mono ?_
  rintro e w5 ⟨rfl, hb⟩
  replace rc := rc.below hb rc.lt
  replace rs := rs.below hb rs.lt
  replace HB := HB.trans (hb.mono HB.size)
  clear hb
  go_wp2
  go_ret
  exact ⟨rfl, HB⟩
set_option maxRecDepth 100000 in
set_option maxHeartbeats 6400000 in
theorem pouts_bad1 (P : Pc) (X : Pa) (s : Ps) (YA : Option Addr) (yn yc : Nat) (w : World) (L : Py w w.heap.size P X) (hl : lgP X yn 0 = false) (hc : plCode P ≠ 0) :
    Calls Tryz.prog 5 #[.agg #[.int .i64 P.m.r, .int .i64 P.m.m, .slice X.A1 X.n1 X.c1, .slice X.A2 X.n2 X.c2, .slice X.A3 X.n3 X.c3, .slice X.A4 X.n4 X.c4, .int .i64 P.m.p, .int .i64 P.m.s, .int .i64 P.m.f, .int .i64 P.l.num, .int .i64 P.l.den, .int .i64 P.l.sup, .int .i64 P.l.fed, .int .i64 P.l.ohm, .int .i64 P.l.bon, .int .i64 P.l.boff, .int .i64 P.l.bohm, .int .i64 P.g, .int .i64 P.d, .int .i64 P.y, .slice X.B1 X.m1 X.d1, .slice X.B2 X.m2 X.d2, .slice X.B3 X.m3 X.d3, .int .i64 P.wi, .int .i64 P.sw], .agg #[.int .i64 s.fd, .int .i64 s.fq, .int .i64 s.v, .bool s.b, .int .i64 s.po, .int .i64 s.sp, .slice YA yn yc, .int .i64 s.tn]] w fun e w' => e = .returned (.bool true) ∧ Below w.heap.size w w' := by
  have kl := fun W => large_walkP P X s YA yn yc ⟨0, false, false, false, false, false, false, [], 0, 0, false, false, false, false, false, false, false, false⟩ none 0 0 W
  simp only [hl] at kl
  have KL := hide kl
  clear kl
  have kc := fun (W : World) (h : Py W W.heap.size P X) => rckR P X W h
  have k1 := fun (W : World) (h : Py W W.heap.size P X) => poutM_1 P X s YA yn yc W h hc
  simp only [errV_ne hc] at k1
  obtain ⟨cd, hcd⟩ : ∃ x, plCode P = x := ⟨_, rfl⟩
  simp only [hcd] at kc k1
  rw [hcd] at hc
  have hcb : (cd != 0) = true := by simp [hc]
  have hcb2 : (cd == 0) = false := by simp [hc]
  have ks := fun (W : World) => samoR 0 0 0 0 0 0 0 0 [] none none 0 0 0 W (Sl.nil _ _ _ _) (Sl.nil _ _ _ _) rfl (by decide)
  have KS := hide ks
  clear ks
  have KC := hide kc
  have K1 := hide k1
  clear kc k1 hcd hl
  have HB := Below.refl w.heap.size w
  obtain ⟨w1, eW1, sW1, rc, hb⟩ := box w #[.int .i64 P.m.r, .int .i64 P.m.m, .slice X.A1 X.n1 X.c1, .slice X.A2 X.n2 X.c2, .slice X.A3 X.n3 X.c3, .slice X.A4 X.n4 X.c4, .int .i64 P.m.p, .int .i64 P.m.s, .int .i64 P.m.f, .int .i64 P.l.num, .int .i64 P.l.den, .int .i64 P.l.sup, .int .i64 P.l.fed, .int .i64 P.l.ohm, .int .i64 P.l.bon, .int .i64 P.l.boff, .int .i64 P.l.bohm, .int .i64 P.g, .int .i64 P.d, .int .i64 P.y, .slice X.B1 X.m1 X.d1, .slice X.B2 X.m2 X.d2, .slice X.B3 X.m3 X.d3, .int .i64 P.wi, .int .i64 P.sw] 35 (g := w.heap.size) rfl HB (by have := HB.size; omega)
  have Qrc : Hid (w.heap.size ≤ w.heap.size) := Lib.hid (by have := HB.size; omega)
  replace HB := hb
  clear hb
  obtain ⟨w2, eW2, sW2, rs, hb⟩ := box w1 #[.int .i64 s.fd, .int .i64 s.fq, .int .i64 s.v, .bool s.b, .int .i64 s.po, .int .i64 s.sp, .slice YA yn yc, .int .i64 s.tn] 47 (g := w.heap.size + 1) sW1 HB (by have := HB.size; omega)
  have Qrs : Hid (w.heap.size ≤ w.heap.size + 1 ∧ w.heap.size < w.heap.size + 1) := Lib.hid ⟨by have := HB.size; omega, by have := rc.lt; omega⟩
  replace rc := rc.al eW2
  replace HB := hb
  clear hb
  go_enter Tryz.func5, Tryz.ntmps5
  go_wp2_with fail
  with_reducible refine (awakeP_walk _).mono ?_
  rintro e w3 ⟨rfl, hb⟩
  replace rc := rc.below hb rc.lt
  replace rs := rs.below hb rs.lt
  replace HB := HB.trans (hb.mono HB.size)
  clear hb
  clear eW1 sW1 eW2 sW2
  go_wp2_with (first | (refine wpList_load_row rfl 35 _ rfl (w.heap.size) rfl _ _ _ _ rc Tryz.underlying35 rfl (by kernel_rfl) ?_) | (refine wpList_load_rowG 35 _ rfl (by go_simp) (w.heap.size) rfl _ _ _ _ rc Tryz.underlying35 rfl (by kernel_rfl) ?_) | (refine wpList_load_row rfl 47 _ rfl (w.heap.size + 1) rfl _ _ _ _ rs Tryz.underlying47 rfl (by kernel_rfl) ?_) | (refine wpList_load_rowG 47 _ rfl (by go_simp) (w.heap.size + 1) rfl _ _ _ _ rs Tryz.underlying47 rfl (by kernel_rfl) ?_))
  with_reducible refine ((unhide KL) _).mono ?_
  rintro e w4 ⟨rfl, hb⟩
  replace rc := rc.below hb rc.lt
  replace rs := rs.below hb rs.lt
  replace HB := HB.trans (hb.mono HB.size)
  clear hb
  go_wp2_with (first | (refine wpList_load_row rfl 35 _ rfl (w.heap.size) rfl _ _ _ _ rc Tryz.underlying35 rfl (by kernel_rfl) ?_) | (refine wpList_load_row rfl 47 _ rfl (w.heap.size + 1) rfl _ _ _ _ rs Tryz.underlying47 rfl (by kernel_rfl) ?_))
  with_reducible refine ((unhide K1) _ ((L.below HB).more HB.size)).mono ?_
  rintro e w5 ⟨rfl, hb⟩
  replace rc := rc.below hb rc.lt
  replace rs := rs.below hb rs.lt
  replace HB := HB.trans (hb.mono HB.size)
  clear hb
  obtain ⟨w6, eW6, sW6, rt, hb⟩ := box w5 #[.int .i64 0, .int .i64 0, .int .i64 0, .int .i64 0, .int .i64 0, .int .i64 0, .int .i64 0, .int .i64 0, .slice none 0 0] 69 (g := w5.heap.size) rfl HB (by have := HB.size; omega)
  have Qrt : Hid (w.heap.size ≤ w5.heap.size ∧ w.heap.size < w5.heap.size ∧ w.heap.size + 1 < w5.heap.size) := Lib.hid ⟨by have := HB.size; omega, by have := rc.lt; omega, by have := rs.lt; omega⟩
  replace rc := rc.al eW6
  replace rs := rs.al eW6
  replace HB := hb
  clear hb
  have qrc := Qrc.out
  have qrs := Qrs.out
  have qrt := Qrt.out
  have rto6 := rt
  obtain ⟨w7, eW7, sW7, hr, hb⟩ := rowX rt #[.int .i64 0, .int .i64 0, .int .i64 0, .int .i64 0, .int .i64 0, .int .i64 0, .int .i64 0, .int .i64 0, .slice none 0 0] (n := w5.heap.size + 1) sW6 HB (by omega)
  replace rc := rc.rowTo eW7 (by omega)
  replace rs := rs.rowTo eW7 (by omega)
  replace rt := hr
  replace HB := hb
  clear hb hr qrc qrs qrt
  go_wp2_with (first | (refine wpList_load_row rfl 35 _ rfl (w.heap.size) rfl _ _ _ _ rc Tryz.underlying35 rfl (by kernel_rfl) ?_) | (refine wpList_store_row rfl 69 _ _ rfl (w5.heap.size) #[.int .i64 0, .int .i64 0, .int .i64 0, .int .i64 0, .int .i64 0, .int .i64 0, .int .i64 0, .int .i64 0, .slice none 0 0] rfl rfl _ _ rto6 (by kernel_rfl) (by kernel_rfl) (by kernel_rfl) ?_; try simp only [eW7]))
  with_reducible refine ((unhide KC) _ ((L.below HB).more HB.size)).mono ?_
  rintro e w8 ⟨rfl, hb⟩
  replace rc := rc.below hb rc.lt
  replace rs := rs.below hb rs.lt
  replace rt := rt.below hb rt.lt
  replace HB := HB.trans (hb.mono HB.size)
  clear hb
  clear rto6 eW6 sW6 eW7 sW7
  go_wp2_with (first | (refine wpList_load_row rfl 69 _ rfl (w5.heap.size) rfl _ _ _ _ rt Tryz.underlying69 rfl (by kernel_rfl) ?_))
  with_reducible refine ((unhide KS) _).mono ?_
  rintro e w9 ⟨rfl, hb⟩
  replace rc := rc.below hb rc.lt
  replace rs := rs.below hb rs.lt
  replace rt := rt.below hb rt.lt
  replace HB := HB.trans (hb.mono HB.size)
  clear hb
  go_wp2_with (first | (go_at_call 10; (with_reducible refine (I.num_iface _ _).mono ?_); rintro e w' ⟨rfl, rfl⟩))
  go_ret
  exact ⟨rfl, HB⟩
set_option maxRecDepth 100000 in
set_option maxHeartbeats 6400000 in
theorem pouts_bad2 (P : Pc) (X : Pa) (s : Ps) (YA : Option Addr) (yn yc : Nat) (w : World) (L : Py w w.heap.size P X) (ey : yn = s.h.length) (hl : lgP X yn 0 = false) (hc : plCode P = 0) (h3 : s.h.length ≠ 3) :
    Calls Tryz.prog 5 #[.agg #[.int .i64 P.m.r, .int .i64 P.m.m, .slice X.A1 X.n1 X.c1, .slice X.A2 X.n2 X.c2, .slice X.A3 X.n3 X.c3, .slice X.A4 X.n4 X.c4, .int .i64 P.m.p, .int .i64 P.m.s, .int .i64 P.m.f, .int .i64 P.l.num, .int .i64 P.l.den, .int .i64 P.l.sup, .int .i64 P.l.fed, .int .i64 P.l.ohm, .int .i64 P.l.bon, .int .i64 P.l.boff, .int .i64 P.l.bohm, .int .i64 P.g, .int .i64 P.d, .int .i64 P.y, .slice X.B1 X.m1 X.d1, .slice X.B2 X.m2 X.d2, .slice X.B3 X.m3 X.d3, .int .i64 P.wi, .int .i64 P.sw], .agg #[.int .i64 s.fd, .int .i64 s.fq, .int .i64 s.v, .bool s.b, .int .i64 s.po, .int .i64 s.sp, .slice YA yn yc, .int .i64 s.tn]] w fun e w' => e = .returned (.bool true) ∧ Below w.heap.size w w' := by
  have kl := fun W => large_walkP P X s YA yn yc ⟨0, false, false, false, false, false, false, [], 0, 0, false, false, false, false, false, false, false, false⟩ none 0 0 W
  simp only [hl] at kl
  have KL := hide kl
  clear kl
  have kc := fun (W : World) (h : Py W W.heap.size P X) => rckR P X W h
  have k1 := fun (W : World) (h : Py W W.heap.size P X) => poutM_2 P X s YA yn yc W h ey hc h3
  simp only [errV_ne (show (11 : Int) ≠ 0 by decide)] at k1
  simp only [hc] at kc
  have h3i : ¬ (yn : Int) = 3 := by omega
  have h3b : ((yn : Int) != 3) = true := by simp [h3i]
  have ks := fun (W : World) => samoR 0 0 0 0 0 0 0 0 [] none none 0 0 0 W (Sl.nil _ _ _ _) (Sl.nil _ _ _ _) rfl (by decide)
  have KS := hide ks
  clear ks
  have KC := hide kc
  have K1 := hide k1
  clear kc k1 hc h3 hl ey
  have HB := Below.refl w.heap.size w
  obtain ⟨w1, eW1, sW1, rc, hb⟩ := box w #[.int .i64 P.m.r, .int .i64 P.m.m, .slice X.A1 X.n1 X.c1, .slice X.A2 X.n2 X.c2, .slice X.A3 X.n3 X.c3, .slice X.A4 X.n4 X.c4, .int .i64 P.m.p, .int .i64 P.m.s, .int .i64 P.m.f, .int .i64 P.l.num, .int .i64 P.l.den, .int .i64 P.l.sup, .int .i64 P.l.fed, .int .i64 P.l.ohm, .int .i64 P.l.bon, .int .i64 P.l.boff, .int .i64 P.l.bohm, .int .i64 P.g, .int .i64 P.d, .int .i64 P.y, .slice X.B1 X.m1 X.d1, .slice X.B2 X.m2 X.d2, .slice X.B3 X.m3 X.d3, .int .i64 P.wi, .int .i64 P.sw] 35 (g := w.heap.size) rfl HB (by have := HB.size; omega)
  have Qrc : Hid (w.heap.size ≤ w.heap.size) := Lib.hid (by have := HB.size; omega)
  replace HB := hb
  clear hb
  obtain ⟨w2, eW2, sW2, rs, hb⟩ := box w1 #[.int .i64 s.fd, .int .i64 s.fq, .int .i64 s.v, .bool s.b, .int .i64 s.po, .int .i64 s.sp, .slice YA yn yc, .int .i64 s.tn] 47 (g := w.heap.size + 1) sW1 HB (by have := HB.size; omega)
  have Qrs : Hid (w.heap.size ≤ w.heap.size + 1 ∧ w.heap.size < w.heap.size + 1) := Lib.hid ⟨by have := HB.size; omega, by have := rc.lt; omega⟩
  replace rc := rc.al eW2
  replace HB := hb
  clear hb
  go_enter Tryz.func5, Tryz.ntmps5
  go_wp2_with fail
  with_reducible refine (awakeP_walk _).mono ?_
  rintro e w3 ⟨rfl, hb⟩
  replace rc := rc.below hb rc.lt
  replace rs := rs.below hb rs.lt
  replace HB := HB.trans (hb.mono HB.size)
  clear hb
  clear eW1 sW1 eW2 sW2
  go_wp2_with (first | (refine wpList_load_row rfl 35 _ rfl (w.heap.size) rfl _ _ _ _ rc Tryz.underlying35 rfl (by kernel_rfl) ?_) | (refine wpList_load_rowG 35 _ rfl (by go_simp) (w.heap.size) rfl _ _ _ _ rc Tryz.underlying35 rfl (by kernel_rfl) ?_) | (refine wpList_load_row rfl 47 _ rfl (w.heap.size + 1) rfl _ _ _ _ rs Tryz.underlying47 rfl (by kernel_rfl) ?_) | (refine wpList_load_rowG 47 _ rfl (by go_simp) (w.heap.size + 1) rfl _ _ _ _ rs Tryz.underlying47 rfl (by kernel_rfl) ?_))
  with_reducible refine ((unhide KL) _).mono ?_
  rintro e w4 ⟨rfl, hb⟩
  replace rc := rc.below hb rc.lt
  replace rs := rs.below hb rs.lt
  replace HB := HB.trans (hb.mono HB.size)
  clear hb
  go_wp2_with (first | (refine wpList_load_row rfl 35 _ rfl (w.heap.size) rfl _ _ _ _ rc Tryz.underlying35 rfl (by kernel_rfl) ?_) | (refine wpList_load_row rfl 47 _ rfl (w.heap.size + 1) rfl _ _ _ _ rs Tryz.underlying47 rfl (by kernel_rfl) ?_))
  with_reducible refine ((unhide K1) _ ((L.below HB).more HB.size)).mono ?_
  rintro e w5 ⟨rfl, hb⟩
  replace rc := rc.below hb rc.lt
  replace rs := rs.below hb rs.lt
  replace HB := HB.trans (hb.mono HB.size)
  clear hb
  obtain ⟨w6, eW6, sW6, rt, hb⟩ := box w5 #[.int .i64 0, .int .i64 0, .int .i64 0, .int .i64 0, .int .i64 0, .int .i64 0, .int .i64 0, .int .i64 0, .slice none 0 0] 69 (g := w5.heap.size) rfl HB (by have := HB.size; omega)
  have Qrt : Hid (w.heap.size ≤ w5.heap.size ∧ w.heap.size < w5.heap.size ∧ w.heap.size + 1 < w5.heap.size) := Lib.hid ⟨by have := HB.size; omega, by have := rc.lt; omega, by have := rs.lt; omega⟩
  replace rc := rc.al eW6
  replace rs := rs.al eW6
  replace HB := hb
  clear hb
  have qrc := Qrc.out
  have qrs := Qrs.out
  have qrt := Qrt.out
  have rto6 := rt
  obtain ⟨w7, eW7, sW7, hr, hb⟩ := rowX rt #[.int .i64 0, .int .i64 0, .int .i64 0, .int .i64 0, .int .i64 0, .int .i64 0, .int .i64 0, .int .i64 0, .slice none 0 0] (n := w5.heap.size + 1) sW6 HB (by omega)
  replace rc := rc.rowTo eW7 (by omega)
  replace rs := rs.rowTo eW7 (by omega)
  replace rt := hr
  replace HB := hb
  clear hb hr qrc qrs qrt
  go_wp2_with (first | (refine wpList_load_row rfl 35 _ rfl (w.heap.size) rfl _ _ _ _ rc Tryz.underlying35 rfl (by kernel_rfl) ?_) | (refine wpList_store_row rfl 69 _ _ rfl (w5.heap.size) #[.int .i64 0, .int .i64 0, .int .i64 0, .int .i64 0, .int .i64 0, .int .i64 0, .int .i64 0, .int .i64 0, .slice none 0 0] rfl rfl _ _ rto6 (by kernel_rfl) (by kernel_rfl) (by kernel_rfl) ?_; try simp only [eW7]))
  with_reducible refine ((unhide KC) _ ((L.below HB).more HB.size)).mono ?_
  rintro e w8 ⟨rfl, hb⟩
  replace rc := rc.below hb rc.lt
  replace rs := rs.below hb rs.lt
  replace rt := rt.below hb rt.lt
  replace HB := HB.trans (hb.mono HB.size)
  clear hb
  clear rto6 eW6 sW6 eW7 sW7
  have rsc6 := rs.cell 6
  go_wp2_with (first | (refine wpList_load_row rfl 69 _ rfl (w5.heap.size) rfl _ _ _ _ rt Tryz.underlying69 rfl (by kernel_rfl) ?_))
  with_reducible refine ((unhide KS) _).mono ?_
  rintro e w9 ⟨rfl, hb⟩
  replace rc := rc.below hb rc.lt
  replace rs := rs.below hb rs.lt
  replace rt := rt.below hb rt.lt
  replace HB := HB.trans (hb.mono HB.size)
  clear hb
  clear rsc6
  go_wp2_with (first | (go_at_call 10; (with_reducible refine (I.num_iface _ _).mono ?_); rintro e w' ⟨rfl, rfl⟩))
  go_ret
  exact ⟨rfl, HB⟩
set_option maxRecDepth 100000 in
set_option maxHeartbeats 6400000 in
theorem pouts_ok (P : Pc) (X : Pa) (s : Ps) (YA : Option Addr) (yn yc : Nat) (w : World) (L : Py w w.heap.size P X) (SY : Sl w w.heap.size 1 YA (rows s.h)) (ey : yn = s.h.length) (hX : ∀ k, k < 3 → -9223372036854775808 ≤ g s.h k ∧ g s.h k ≤ 9223372036854775807) (hl : lgP X yn 0 = false) (hc : plCode P = 0) (h3 : s.h.length = 3) :
    Calls Tryz.prog 5 #[.agg #[.int .i64 P.m.r, .int .i64 P.m.m, .slice X.A1 X.n1 X.c1, .slice X.A2 X.n2 X.c2, .slice X.A3 X.n3 X.c3, .slice X.A4 X.n4 X.c4, .int .i64 P.m.p, .int .i64 P.m.s, .int .i64 P.m.f, .int .i64 P.l.num, .int .i64 P.l.den, .int .i64 P.l.sup, .int .i64 P.l.fed, .int .i64 P.l.ohm, .int .i64 P.l.bon, .int .i64 P.l.boff, .int .i64 P.l.bohm, .int .i64 P.g, .int .i64 P.d, .int .i64 P.y, .slice X.B1 X.m1 X.d1, .slice X.B2 X.m2 X.d2, .slice X.B3 X.m3 X.d3, .int .i64 P.wi, .int .i64 P.sw], .agg #[.int .i64 s.fd, .int .i64 s.fq, .int .i64 s.v, .bool s.b, .int .i64 s.po, .int .i64 s.sp, .slice YA yn yc, .int .i64 s.tn]] w fun e w' => e = .returned (.bool true) ∧ Below w.heap.size w w' := by
  have kl := fun W => large_walkP P X s YA yn yc ⟨0, false, false, false, false, false, false, [], 0, 0, false, false, false, false, false, false, false, false⟩ none 0 0 W
  simp only [hl] at kl
  have KL := hide kl
  clear kl
  obtain rfl : yn = 3 := by omega
  have kc := fun (W : World) (h : Py W W.heap.size P X) => rckR P X W h
  simp only [hc] at kc
  have k1 := fun (W : World) (h : Py W W.heap.size P X) (hy : Sl W W.heap.size 1 YA (rows s.h)) => poutM_ok P X s YA 3 yc W h hy ey hc h3
  have k2 := fun (W : World) (h : Py W W.heap.size P X) (hy : Sl W W.heap.size 1 YA (rows s.h)) => routP P X s YA 3 yc W h hy ey hc h3 hX
  obtain ⟨w1', g1⟩ : ∃ x, wrapP s.po = x := ⟨_, rfl⟩
  obtain ⟨x1, g3⟩ : ∃ x, angP s.po = x := ⟨_, rfl⟩
  obtain ⟨cl, g5⟩ : ∃ x, clipI s.sp (-1073741824) 1073741824 = x := ⟨_, rfl⟩
  obtain ⟨v1, g6⟩ : ∃ x, clipI s.v 0 1048576 = x := ⟨_, rfl⟩
  obtain ⟨t1, g7⟩ : ∃ x, torq P.m s.fd s.fq = x := ⟨_, rfl⟩
  obtain ⟨c1, g8⟩ : ∃ x, cuA P s = x := ⟨_, rfl⟩
  obtain ⟨c2, g9⟩ : ∃ x, cuB P s = x := ⟨_, rfl⟩
  obtain ⟨c3, g10⟩ : ∃ x, cuC P s = x := ⟨_, rfl⟩
  have lCE : (cels s.h 3).length = 3 := cels_len _ _
  obtain ⟨CE, hCE⟩ : ∃ x, cels s.h 3 = x := ⟨_, rfl⟩
  rw [hCE] at lCE
  simp only [g1, g3, g5, g6, g7, g8, g9, g10, hCE] at k1 k2
  have ks := fun (W : World) (A B : Option Addr) (ca cb : Nat) (h1 : Sl W W.heap.size 1 A (rows CE)) (h2 : Sl W W.heap.size 1 B (rows CE)) => samoR c1 c2 c3 v1 x1 w1' cl t1 CE A B 3 ca cb W h1 h2 lCE.symm (by omega)
  have KS := hide ks
  have KC := hide kc
  have K1 := hide k1
  have K2 := hide k2
  clear kc k1 k2 ks hc hl h3 hX g1 g3 g5 g6 g7 g8 g9 g10 hCE lCE ey
  have HB := Below.refl w.heap.size w
  obtain ⟨w1, eW1, sW1, rc, hb⟩ := box w #[.int .i64 P.m.r, .int .i64 P.m.m, .slice X.A1 X.n1 X.c1, .slice X.A2 X.n2 X.c2, .slice X.A3 X.n3 X.c3, .slice X.A4 X.n4 X.c4, .int .i64 P.m.p, .int .i64 P.m.s, .int .i64 P.m.f, .int .i64 P.l.num, .int .i64 P.l.den, .int .i64 P.l.sup, .int .i64 P.l.fed, .int .i64 P.l.ohm, .int .i64 P.l.bon, .int .i64 P.l.boff, .int .i64 P.l.bohm, .int .i64 P.g, .int .i64 P.d, .int .i64 P.y, .slice X.B1 X.m1 X.d1, .slice X.B2 X.m2 X.d2, .slice X.B3 X.m3 X.d3, .int .i64 P.wi, .int .i64 P.sw] 35 (g := w.heap.size) rfl HB (by have := HB.size; omega)
  have Qrc : Hid (w.heap.size ≤ w.heap.size) := Lib.hid (by have := HB.size; omega)
  replace HB := hb
  clear hb
  obtain ⟨w2, eW2, sW2, rs, hb⟩ := box w1 #[.int .i64 s.fd, .int .i64 s.fq, .int .i64 s.v, .bool s.b, .int .i64 s.po, .int .i64 s.sp, .slice YA 3 yc, .int .i64 s.tn] 47 (g := w.heap.size + 1) sW1 HB (by have := HB.size; omega)
  have Qrs : Hid (w.heap.size ≤ w.heap.size + 1 ∧ w.heap.size < w.heap.size + 1) := Lib.hid ⟨by have := HB.size; omega, by have := rc.lt; omega⟩
  replace rc := rc.al eW2
  replace HB := hb
  clear hb
  go_enter Tryz.func5, Tryz.ntmps5
  go_wp2_with fail
  with_reducible refine (awakeP_walk _).mono ?_
  rintro e w3 ⟨rfl, hb⟩
  replace rc := rc.below hb rc.lt
  replace rs := rs.below hb rs.lt
  replace HB := HB.trans (hb.mono HB.size)
  clear hb
  clear eW1 sW1 eW2 sW2
  go_wp2_with (first | (refine wpList_load_row rfl 35 _ rfl (w.heap.size) rfl _ _ _ _ rc Tryz.underlying35 rfl (by kernel_rfl) ?_) | (refine wpList_load_rowG 35 _ rfl (by go_simp) (w.heap.size) rfl _ _ _ _ rc Tryz.underlying35 rfl (by kernel_rfl) ?_) | (refine wpList_load_row rfl 47 _ rfl (w.heap.size + 1) rfl _ _ _ _ rs Tryz.underlying47 rfl (by kernel_rfl) ?_) | (refine wpList_load_rowG 47 _ rfl (by go_simp) (w.heap.size + 1) rfl _ _ _ _ rs Tryz.underlying47 rfl (by kernel_rfl) ?_))
  with_reducible refine ((unhide KL) _).mono ?_
  rintro e w4 ⟨rfl, hb⟩
  replace rc := rc.below hb rc.lt
  replace rs := rs.below hb rs.lt
  replace HB := HB.trans (hb.mono HB.size)
  clear hb
  go_wp2_with (first | (refine wpList_load_row rfl 35 _ rfl (w.heap.size) rfl _ _ _ _ rc Tryz.underlying35 rfl (by kernel_rfl) ?_) | (refine wpList_load_row rfl 47 _ rfl (w.heap.size + 1) rfl _ _ _ _ rs Tryz.underlying47 rfl (by kernel_rfl) ?_))
  with_reducible refine ((unhide K1) _ ((L.below HB).more HB.size) ((SY.below HB).more HB.size)).mono ?_
  rintro e w5 ⟨⟨A, ca, rfl, SA, fA⟩, hb⟩
  replace rc := rc.below hb rc.lt
  replace rs := rs.below hb rs.lt
  replace HB := HB.trans (hb.mono HB.size)
  clear hb
  clear fA
  have HS := Below.refl w5.heap.size w5
  obtain ⟨w6, eW6, sW6, rt, hb⟩ := box w5 #[.int .i64 0, .int .i64 0, .int .i64 0, .int .i64 0, .int .i64 0, .int .i64 0, .int .i64 0, .int .i64 0, .slice none 0 0] 69 (g := w5.heap.size) rfl HB (by have := HB.size; omega)
  have Qrt : Hid (w.heap.size ≤ w5.heap.size ∧ w5.heap.size ≤ w5.heap.size ∧ w.heap.size < w5.heap.size ∧ w.heap.size + 1 < w5.heap.size) := Lib.hid ⟨by have := HB.size; omega, by have := HS.size; omega, by have := rc.lt; omega, by have := rs.lt; omega⟩
  replace rc := rc.al eW6
  replace rs := rs.al eW6
  replace HS : Below w5.heap.size w5 w6 := eW6 ▸ HS.alloc HS.size _
  replace HB := hb
  clear hb
  have qrc := Qrc.out
  have qrs := Qrs.out
  have qrt := Qrt.out
  have uHS := HS.size
  have rto6 := rt
  obtain ⟨w7, eW7, sW7, hr, hb⟩ := rowX rt #[.int .i64 c1, .int .i64 c2, .int .i64 c3, .int .i64 v1, .int .i64 x1, .int .i64 (w1'), .int .i64 cl, .int .i64 t1, .slice A 3 ca] (n := w5.heap.size + 1) sW6 HB (by omega)
  replace rc := rc.rowTo eW7 (by omega)
  replace rs := rs.rowTo eW7 (by omega)
  replace rt := hr
  have HSo := HS
  replace HS : Below w5.heap.size w5 w7 := eW7 ▸ below_row HS (by omega)
  replace HB := hb
  clear hb hr qrc qrs qrt uHS
  go_wp2_with (first | (refine wpList_load_row rfl 35 _ rfl (w.heap.size) rfl _ _ _ _ rc Tryz.underlying35 rfl (by kernel_rfl) ?_) | (refine wpList_store_row rfl 69 _ _ rfl (w5.heap.size) #[.int .i64 c1, .int .i64 c2, .int .i64 c3, .int .i64 v1, .int .i64 x1, .int .i64 (w1'), .int .i64 cl, .int .i64 t1, .slice A 3 ca] rfl rfl _ _ rto6 (by kernel_rfl) (by kernel_rfl) (by kernel_rfl) ?_; try simp only [eW7]))
  with_reducible refine ((unhide KC) _ ((L.below HB).more HB.size)).mono ?_
  rintro e w8 ⟨rfl, hb⟩
  replace rc := rc.below hb rc.lt
  replace rs := rs.below hb rs.lt
  replace rt := rt.below hb rt.lt
  replace HB := HB.trans (hb.mono HB.size)
  replace HS := HS.trans (hb.mono HS.size)
  clear hb
  clear rto6 eW6 sW6 eW7 sW7
  have rsc6 := rs.cell 6
  go_wp2_with fail
  clear rsc6
  obtain ⟨w9, hw, sw⟩ := drewX w8
  replace rc : Blk w9 (w.heap.size) 35 #[.int .i64 P.m.r, .int .i64 P.m.m, .slice X.A1 X.n1 X.c1, .slice X.A2 X.n2 X.c2, .slice X.A3 X.n3 X.c3, .slice X.A4 X.n4 X.c4, .int .i64 P.m.p, .int .i64 P.m.s, .int .i64 P.m.f, .int .i64 P.l.num, .int .i64 P.l.den, .int .i64 P.l.sup, .int .i64 P.l.fed, .int .i64 P.l.ohm, .int .i64 P.l.bon, .int .i64 P.l.boff, .int .i64 P.l.bohm, .int .i64 P.g, .int .i64 P.d, .int .i64 P.y, .slice X.B1 X.m1 X.d1, .slice X.B2 X.m2 X.d2, .slice X.B3 X.m3 X.d3, .int .i64 P.wi, .int .i64 P.sw] := hw ▸ rc.drew
  have zrc := rc.lt
  replace rs : Blk w9 (w.heap.size + 1) 47 #[.int .i64 s.fd, .int .i64 s.fq, .int .i64 s.v, .bool s.b, .int .i64 s.po, .int .i64 s.sp, .slice YA 3 yc, .int .i64 s.tn] := hw ▸ rs.drew
  have zrs := rs.lt
  replace rt : Blk w9 (w5.heap.size) 69 #[.int .i64 c1, .int .i64 c2, .int .i64 c3, .int .i64 v1, .int .i64 x1, .int .i64 (w1'), .int .i64 cl, .int .i64 t1, .slice A 3 ca] := hw ▸ rt.drew
  have zrt := rt.lt
  replace HB : Below w.heap.size w w9 := hw ▸ HB.drew
  replace HS : Below w5.heap.size w5 w9 := hw ▸ HS.drew
  refine wp_region_multi (fun i => [6, 7, 8, 9].contains i) (fun i => [6, 7].contains i) w9.heap.size (by kernel_rfl) ?_
  change wpX _ _ _ _ _ _ _ _ _ _ w8.drew
  rw [hw]
  clear hw sw
  have HR := Below.refl w9.heap.size w9
  apply wpX_take (i := 0) rfl rfl (by kernel_rfl) (fun _ _ _ h => h)
  · intro w' hb
    unfold yv
    go_simp
    simp only [yvUpon]
    exact ⟨trivial, rfl⟩
  · go_simp
    exact rfl
  apply wpX_take (i := 1) rfl rfl (by kernel_rfl) (fun _ _ _ h => h)
  · intro w' hb
    unfold yv
    go_simp
    simp only [yvUpon]
    exact ⟨trivial, rfl⟩
  · go_simp
    exact rfl
  apply wpX_take (i := 2) rfl rfl (by kernel_rfl) (fun _ _ _ h => h)
  · intro w' hb
    unfold yv
    go_simp
    simp only [yvUpon]
    exact ⟨trivial, rfl⟩
  · go_simp
    exact rfl
  apply wpX_takeG (i := 3) rfl (by go_simp) (by kernel_rfl) (fun _ _ _ h => h)
  · intro w' hb
    exact yv_load_row 69 _ rfl (w5.heap.size) rfl _ _ _ _ (rt.below hb zrt) Tryz.underlying69 rfl (by kernel_rfl)
  · go_simp
    exact rfl
  apply wpX_takeG (i := 4) rfl (by go_simp) (by kernel_rfl) (fun _ _ _ h => h)
  · intro w' hb
    exact yv_load_row 35 _ rfl (w.heap.size) rfl _ _ _ _ (rc.below hb zrc) Tryz.underlying35 rfl (by kernel_rfl)
  · go_simp
    exact rfl
  apply wpX_takeG (i := 5) rfl (by go_simp) (by kernel_rfl) (fun _ _ _ h => h)
  · intro w' hb
    exact yv_load_row 47 _ rfl (w.heap.size + 1) rfl _ _ _ _ (rs.below hb zrs) Tryz.underlying47 rfl (by kernel_rfl)
  · go_simp
    exact rfl
  apply wpX_oneG (i := 6) rfl (by go_simp) (by kernel_rfl)
  unfold mild
  go_simp
  simp only [mildUpon]
  refine ⟨trivial, ?_⟩
  with_reducible refine ((unhide K2) _ ((L.below HB).more HB.size) ((SY.below HB).more HB.size)).mono ?_
  rintro e w10 ⟨⟨B, cb, rfl, SB⟩, hb⟩
  refine ⟨_, rfl, hb.mono HR.size, ?_⟩
  replace rc := rc.below hb rc.lt
  replace rs := rs.below hb rs.lt
  replace rt := rt.below hb rt.lt
  replace HB := HB.trans (hb.mono HB.size)
  replace HS := HS.trans (hb.mono HS.size)
  replace HR := HR.trans (hb.mono HR.size)
  clear hb
  have HT := Below.refl w10.heap.size w10
  apply wpX_oneG (i := 7) rfl (by go_simp) (by kernel_rfl)
  unfold mild
  go_simp
  simp only [mildUpon]
  refine ⟨trivial, ?_⟩
  with_reducible refine ((unhide KS) _ A B ca cb ((SA.below HS).more HS.size) ((SB.below HT).more HT.size)).mono ?_
  rintro e w11 ⟨rfl, hb⟩
  refine ⟨_, rfl, hb.mono HR.size, ?_⟩
  replace rc := rc.below hb rc.lt
  replace rs := rs.below hb rs.lt
  replace rt := rt.below hb rt.lt
  replace HB := HB.trans (hb.mono HB.size)
  replace HS := HS.trans (hb.mono HS.size)
  replace HR := HR.trans (hb.mono HR.size)
  replace HT := HT.trans (hb.mono HT.size)
  clear hb
  refine wpX_rest (k := 8) (by kernel_rfl) ?_
  simp only [List.drop_succ_cons, List.drop_zero]
  go_wp2
  go_ret
  exact ⟨rfl, HB⟩
theorem pouts_walk (P : Pc) (X : Pa) (s : Ps) (YA : Option Addr) (yn yc : Nat) (w : World) (L : Py w w.heap.size P X) (SY : Sl w w.heap.size 1 YA (rows s.h)) (ey : yn = s.h.length) (hX : ∀ k, k < s.h.length → -9223372036854775808 ≤ g s.h k ∧ g s.h k ≤ 9223372036854775807) :
    Calls Tryz.prog 5 #[.agg #[.int .i64 P.m.r, .int .i64 P.m.m, .slice X.A1 X.n1 X.c1, .slice X.A2 X.n2 X.c2, .slice X.A3 X.n3 X.c3, .slice X.A4 X.n4 X.c4, .int .i64 P.m.p, .int .i64 P.m.s, .int .i64 P.m.f, .int .i64 P.l.num, .int .i64 P.l.den, .int .i64 P.l.sup, .int .i64 P.l.fed, .int .i64 P.l.ohm, .int .i64 P.l.bon, .int .i64 P.l.boff, .int .i64 P.l.bohm, .int .i64 P.g, .int .i64 P.d, .int .i64 P.y, .slice X.B1 X.m1 X.d1, .slice X.B2 X.m2 X.d2, .slice X.B3 X.m3 X.d3, .int .i64 P.wi, .int .i64 P.sw], .agg #[.int .i64 s.fd, .int .i64 s.fq, .int .i64 s.v, .bool s.b, .int .i64 s.po, .int .i64 s.sp, .slice YA yn yc, .int .i64 s.tn]] w fun e w' => e = .returned (.bool true) ∧ Below w.heap.size w w' := by
  cases hl : lgP X yn 0 with
  | true => exact pouts_large P X s YA yn yc w hl
  | false =>
    by_cases h0 : plCode P = 0
    · by_cases h3 : s.h.length = 3
      · exact pouts_ok P X s YA yn yc w L SY ey (fun k hk => hX k (by omega)) hl h0 h3
      · exact pouts_bad2 P X s YA yn yc w L ey hl h0 h3
    · exact pouts_bad1 P X s YA yn yc w L hl h0
end Go.Proofs.YtpfkiohknpeifaaGreat
