/- The walk of the statement PlantChecks. -/
import Derived.Test.YtpfkiohknpeifaaGreatPAwake
import Derived.Test.YtpfkiohknpeifaaGreatPLarge
import Derived.Test.YtpfkiohknpeifaaGreatPLaws
import Derived.Test.YtpfkiohknpeifaaGreatPPChkR
import Derived.Test.YtpfkiohknpeifaaGreatPRRef
import Derived.Test.YtpfkiohknpeifaaGreatPSame
import Derived.Test.YtpfkiohknpeifaaGreatMultiG
namespace Go.Proofs.YtpfkiohknpeifaaGreat
open Go.RowKit
set_option maxRecDepth 100000 in
set_option maxHeartbeats 6400000 in
theorem pchecks_large (P : Pc) (X : Pa) (amb : Int) (w : World) (hl : lgP X 0 0 = true) :
    Calls Tryz.prog 3 #[.agg #[.int .i64 P.m.r, .int .i64 P.m.m, .slice X.A1 X.n1 X.c1, .slice X.A2 X.n2 X.c2, .slice X.A3 X.n3 X.c3, .slice X.A4 X.n4 X.c4, .int .i64 P.m.p, .int .i64 P.m.s, .int .i64 P.m.f, .int .i64 P.l.num, .int .i64 P.l.den, .int .i64 P.l.sup, .int .i64 P.l.fed, .int .i64 P.l.ohm, .int .i64 P.l.bon, .int .i64 P.l.boff, .int .i64 P.l.bohm, .int .i64 P.g, .int .i64 P.d, .int .i64 P.y, .slice X.B1 X.m1 X.d1, .slice X.B2 X.m2 X.d2, .slice X.B3 X.m3 X.d3, .int .i64 P.wi, .int .i64 P.sw], .int .i64 amb] w fun e w' => e = .returned (.bool true) ∧ Below w.heap.size w w' := by
  have kl := fun W => large_walkP P X ⟨0, 0, 0, false, 0, 0, [], 0⟩ none 0 0 ⟨0, false, false, false, false, false, false, [], 0, 0, false, false, false, false, false, false, false, false⟩ none 0 0 W
  simp only [hl] at kl
  have KL := hide kl
  clear kl
  clear hl
  have HB := Below.refl w.heap.size w
  obtain ⟨w1, eW1, sW1, rc, hb⟩ := box w #[.int .i64 P.m.r, .int .i64 P.m.m, .slice X.A1 X.n1 X.c1, .slice X.A2 X.n2 X.c2, .slice X.A3 X.n3 X.c3, .slice X.A4 X.n4 X.c4, .int .i64 P.m.p, .int .i64 P.m.s, .int .i64 P.m.f, .int .i64 P.l.num, .int .i64 P.l.den, .int .i64 P.l.sup, .int .i64 P.l.fed, .int .i64 P.l.ohm, .int .i64 P.l.bon, .int .i64 P.l.boff, .int .i64 P.l.bohm, .int .i64 P.g, .int .i64 P.d, .int .i64 P.y, .slice X.B1 X.m1 X.d1, .slice X.B2 X.m2 X.d2, .slice X.B3 X.m3 X.d3, .int .i64 P.wi, .int .i64 P.sw] 35 (g := w.heap.size) rfl HB (by have := HB.size; omega)
  have Qrc : Hid (w.heap.size ≤ w.heap.size) := Lib.hid (by have := HB.size; omega)
  replace HB := hb
  clear hb
  go_enter Tryz.func3, Tryz.ntmps3
  go_wp2_with fail
  with_reducible refine (awakeP_walk _).mono ?_
  rintro e w2 ⟨rfl, hb⟩
  replace rc := rc.below hb rc.lt
  replace HB := HB.trans (hb.mono HB.size)
  clear hb
  clear eW1 sW1
  go_wp2_with (first | (refine wpList_load_row rfl 35 _ rfl (w.heap.size) rfl _ _ _ _ rc Tryz.underlying35 rfl (by kernel_rfl) ?_) | (refine wpList_load_rowG 35 _ rfl (by go_simp) (w.heap.size) rfl _ _ _ _ rc Tryz.underlying35 rfl (by kernel_rfl) ?_))
  with_reducible refine ((unhide KL) _).mono ?_
  rintro e w3 ⟨rfl, hb⟩
  replace rc := rc.below hb rc.lt
  replace HB := HB.trans (hb.mono HB.size)
  clear hb
  go_wp2_with fail
  with_reducible refine (awakeP_walk _).mono ?_
  rintro e w4 ⟨rfl, hb⟩
  replace rc := rc.below hb rc.lt
  replace HB := HB.trans (hb.mono HB.size)
  clear hb
  go_wp2
  go_ret
  exact ⟨rfl, HB⟩
set_option maxRecDepth 100000 in
set_option maxHeartbeats 6400000 in
theorem pchecks_bad (P : Pc) (X : Pa) (amb : Int) (w : World) (L : Py w w.heap.size P X) (hl : lgP X 0 0 = false) (hc : plCode P ≠ 0) :
    Calls Tryz.prog 3 #[.agg #[.int .i64 P.m.r, .int .i64 P.m.m, .slice X.A1 X.n1 X.c1, .slice X.A2 X.n2 X.c2, .slice X.A3 X.n3 X.c3, .slice X.A4 X.n4 X.c4, .int .i64 P.m.p, .int .i64 P.m.s, .int .i64 P.m.f, .int .i64 P.l.num, .int .i64 P.l.den, .int .i64 P.l.sup, .int .i64 P.l.fed, .int .i64 P.l.ohm, .int .i64 P.l.bon, .int .i64 P.l.boff, .int .i64 P.l.bohm, .int .i64 P.g, .int .i64 P.d, .int .i64 P.y, .slice X.B1 X.m1 X.d1, .slice X.B2 X.m2 X.d2, .slice X.B3 X.m3 X.d3, .int .i64 P.wi, .int .i64 P.sw], .int .i64 amb] w fun e w' => e = .returned (.bool true) ∧ Below w.heap.size w w' := by
  have kl := fun W => large_walkP P X ⟨0, 0, 0, false, 0, 0, [], 0⟩ none 0 0 ⟨0, false, false, false, false, false, false, [], 0, 0, false, false, false, false, false, false, false, false⟩ none 0 0 W
  simp only [hl] at kl
  have KL := hide kl
  clear kl
  have kc := fun (W : World) (h : Py W W.heap.size P X) => rckR P X W h
  have k1 := fun (W : World) (h : Py W W.heap.size P X) => pstartM_bad P X amb W h hc
  have k2 := fun (W : World) (h : Py W W.heap.size P X) => pckM P X W h
  simp only [errV_ne hc] at k1 k2
  obtain ⟨cd, hcd⟩ : ∃ x, plCode P = x := ⟨_, rfl⟩
  simp only [hcd] at kc k1 k2
  rw [hcd] at hc
  have hcb : (cd != 0) = true := by simp [hc]
  have ks := fun (W : World) => sameR 0 0 0 0 0 0 false [] none none 0 0 0 W (Sl.nil _ _ _ _) (Sl.nil _ _ _ _) rfl (by decide)
  have KS := hide ks
  clear ks
  have KC := hide kc
  have K1 := hide k1
  have K2 := hide k2
  clear kc k1 k2 hcd hl
  have HB := Below.refl w.heap.size w
  obtain ⟨w1, eW1, sW1, rc, hb⟩ := box w #[.int .i64 P.m.r, .int .i64 P.m.m, .slice X.A1 X.n1 X.c1, .slice X.A2 X.n2 X.c2, .slice X.A3 X.n3 X.c3, .slice X.A4 X.n4 X.c4, .int .i64 P.m.p, .int .i64 P.m.s, .int .i64 P.m.f, .int .i64 P.l.num, .int .i64 P.l.den, .int .i64 P.l.sup, .int .i64 P.l.fed, .int .i64 P.l.ohm, .int .i64 P.l.bon, .int .i64 P.l.boff, .int .i64 P.l.bohm, .int .i64 P.g, .int .i64 P.d, .int .i64 P.y, .slice X.B1 X.m1 X.d1, .slice X.B2 X.m2 X.d2, .slice X.B3 X.m3 X.d3, .int .i64 P.wi, .int .i64 P.sw] 35 (g := w.heap.size) rfl HB (by have := HB.size; omega)
  have Qrc : Hid (w.heap.size ≤ w.heap.size) := Lib.hid (by have := HB.size; omega)
  replace HB := hb
  clear hb
  go_enter Tryz.func3, Tryz.ntmps3
  go_wp2_with fail
  with_reducible refine (awakeP_walk _).mono ?_
  rintro e w2 ⟨rfl, hb⟩
  replace rc := rc.below hb rc.lt
  replace HB := HB.trans (hb.mono HB.size)
  clear hb
  clear eW1 sW1
  go_wp2_with (first | (refine wpList_load_row rfl 35 _ rfl (w.heap.size) rfl _ _ _ _ rc Tryz.underlying35 rfl (by kernel_rfl) ?_) | (refine wpList_load_rowG 35 _ rfl (by go_simp) (w.heap.size) rfl _ _ _ _ rc Tryz.underlying35 rfl (by kernel_rfl) ?_))
  with_reducible refine ((unhide KL) _).mono ?_
  rintro e w3 ⟨rfl, hb⟩
  replace rc := rc.below hb rc.lt
  replace HB := HB.trans (hb.mono HB.size)
  clear hb
  go_wp2_with (first | (refine wpList_load_row rfl 35 _ rfl (w.heap.size) rfl _ _ _ _ rc Tryz.underlying35 rfl (by kernel_rfl) ?_))
  with_reducible refine ((unhide KC) _ ((L.below HB).more HB.size)).mono ?_
  rintro e w4 ⟨rfl, hb⟩
  replace rc := rc.below hb rc.lt
  replace HB := HB.trans (hb.mono HB.size)
  clear hb
  go_wp2_with (first | (refine wpList_load_row rfl 35 _ rfl (w.heap.size) rfl _ _ _ _ rc Tryz.underlying35 rfl (by kernel_rfl) ?_))
  with_reducible refine ((unhide K1) _ ((L.below HB).more HB.size)).mono ?_
  rintro e w5 ⟨rfl, hb⟩
  replace rc := rc.below hb rc.lt
  replace HB := HB.trans (hb.mono HB.size)
  clear hb
  obtain ⟨w6, eW6, sW6, rt, hb⟩ := box w5 #[.int .i64 0, .int .i64 0, .int .i64 0, .bool false, .int .i64 0, .int .i64 0, .slice none 0 0, .int .i64 0] 47 (g := w5.heap.size) rfl HB (by have := HB.size; omega)
  have Qrt : Hid (w.heap.size ≤ w5.heap.size ∧ w.heap.size < w5.heap.size) := Lib.hid ⟨by have := HB.size; omega, by have := rc.lt; omega⟩
  replace rc := rc.al eW6
  replace HB := hb
  clear hb
  have qrc := Qrc.out
  have qrt := Qrt.out
  have rto6 := rt
  obtain ⟨w7, eW7, sW7, hr, hb⟩ := rowX rt #[.int .i64 0, .int .i64 0, .int .i64 0, .bool false, .int .i64 0, .int .i64 0, .slice none 0 0, .int .i64 0] (n := w5.heap.size + 1) sW6 HB (by omega)
  replace rc := rc.rowTo eW7 (by omega)
  replace rt := hr
  replace HB := hb
  clear hb hr qrc qrt
  go_wp2_with (first | (refine wpList_load_row rfl 35 _ rfl (w.heap.size) rfl _ _ _ _ rc Tryz.underlying35 rfl (by kernel_rfl) ?_) | (refine wpList_store_row rfl 47 _ _ rfl (w5.heap.size) #[.int .i64 0, .int .i64 0, .int .i64 0, .bool false, .int .i64 0, .int .i64 0, .slice none 0 0, .int .i64 0] rfl rfl _ _ rto6 (by kernel_rfl) (by kernel_rfl) (by kernel_rfl) ?_; try simp only [eW7]))
  with_reducible refine ((unhide K2) _ ((L.below HB).more HB.size)).mono ?_
  rintro e w8 ⟨rfl, hb⟩
  replace rc := rc.below hb rc.lt
  replace rt := rt.below hb rt.lt
  replace HB := HB.trans (hb.mono HB.size)
  clear hb
  clear rto6 eW6 sW6 eW7 sW7
  go_wp2_with (first | (refine wpList_load_row rfl 47 _ rfl (w5.heap.size) rfl _ _ _ _ rt Tryz.underlying47 rfl (by kernel_rfl) ?_) | (go_at_call 10; (with_reducible refine (I.num_iface _ _).mono ?_); rintro e w' ⟨rfl, rfl⟩))
  with_reducible refine ((unhide KS) _).mono ?_
  rintro e w9 ⟨rfl, hb⟩
  replace rc := rc.below hb rc.lt
  replace rt := rt.below hb rt.lt
  replace HB := HB.trans (hb.mono HB.size)
  clear hb
  go_wp2
  go_ret
  exact ⟨rfl, HB⟩
set_option maxRecDepth 100000 in
set_option maxHeartbeats 6400000 in
theorem pchecks_ok (P : Pc) (X : Pa) (amb : Int) (w : World) (L : Py w w.heap.size P X) (hl : lgP X 0 0 = false) (hc : plCode P = 0) :
    Calls Tryz.prog 3 #[.agg #[.int .i64 P.m.r, .int .i64 P.m.m, .slice X.A1 X.n1 X.c1, .slice X.A2 X.n2 X.c2, .slice X.A3 X.n3 X.c3, .slice X.A4 X.n4 X.c4, .int .i64 P.m.p, .int .i64 P.m.s, .int .i64 P.m.f, .int .i64 P.l.num, .int .i64 P.l.den, .int .i64 P.l.sup, .int .i64 P.l.fed, .int .i64 P.l.ohm, .int .i64 P.l.bon, .int .i64 P.l.boff, .int .i64 P.l.bohm, .int .i64 P.g, .int .i64 P.d, .int .i64 P.y, .slice X.B1 X.m1 X.d1, .slice X.B2 X.m2 X.d2, .slice X.B3 X.m3 X.d3, .int .i64 P.wi, .int .i64 P.sw], .int .i64 amb] w fun e w' => e = .returned (.bool true) ∧ Below w.heap.size w w' := by
  have kl := fun W => large_walkP P X ⟨0, 0, 0, false, 0, 0, [], 0⟩ none 0 0 ⟨0, false, false, false, false, false, false, [], 0, 0, false, false, false, false, false, false, false, false⟩ none 0 0 W
  simp only [hl] at kl
  have KL := hide kl
  clear kl
  have kc := fun (W : World) (h : Py W W.heap.size P X) => rckR P X W h
  have k1 := fun (W : World) (h : Py W W.heap.size P X) => pstartM P X amb W h hc
  have k2 := fun (W : World) (h : Py W W.heap.size P X) => pckM P X W h
  have k3 := fun (W : World) (h : Py W W.heap.size P X) => rstartP P X amb W h hc
  simp only [hc] at kc
  simp only [hc, errV_zero] at k2
  have ks := fun (W : World) (A B : Option Addr) (h1 : Sl W W.heap.size 1 A (rows [warmV amb, warmV amb, warmV amb])) (h2 : Sl W W.heap.size 1 B (rows [warmV amb, warmV amb, warmV amb])) => sameR P.m.m 0 P.l.sup 0 0 0 false [warmV amb, warmV amb, warmV amb] A B 3 3 3 W h1 h2 rfl (by decide)
  have KS := hide ks
  have KC := hide kc
  have K1 := hide k1
  have K2 := hide k2
  have K3 := hide k3
  clear kc k1 k2 k3 ks hc hl
  have HB := Below.refl w.heap.size w
  obtain ⟨w1, eW1, sW1, rc, hb⟩ := box w #[.int .i64 P.m.r, .int .i64 P.m.m, .slice X.A1 X.n1 X.c1, .slice X.A2 X.n2 X.c2, .slice X.A3 X.n3 X.c3, .slice X.A4 X.n4 X.c4, .int .i64 P.m.p, .int .i64 P.m.s, .int .i64 P.m.f, .int .i64 P.l.num, .int .i64 P.l.den, .int .i64 P.l.sup, .int .i64 P.l.fed, .int .i64 P.l.ohm, .int .i64 P.l.bon, .int .i64 P.l.boff, .int .i64 P.l.bohm, .int .i64 P.g, .int .i64 P.d, .int .i64 P.y, .slice X.B1 X.m1 X.d1, .slice X.B2 X.m2 X.d2, .slice X.B3 X.m3 X.d3, .int .i64 P.wi, .int .i64 P.sw] 35 (g := w.heap.size) rfl HB (by have := HB.size; omega)
  have Qrc : Hid (w.heap.size ≤ w.heap.size) := Lib.hid (by have := HB.size; omega)
  replace HB := hb
  clear hb
  go_enter Tryz.func3, Tryz.ntmps3
  go_wp2_with fail
  with_reducible refine (awakeP_walk _).mono ?_
  rintro e w2 ⟨rfl, hb⟩
  replace rc := rc.below hb rc.lt
  replace HB := HB.trans (hb.mono HB.size)
  clear hb
  clear eW1 sW1
  go_wp2_with (first | (refine wpList_load_row rfl 35 _ rfl (w.heap.size) rfl _ _ _ _ rc Tryz.underlying35 rfl (by kernel_rfl) ?_) | (refine wpList_load_rowG 35 _ rfl (by go_simp) (w.heap.size) rfl _ _ _ _ rc Tryz.underlying35 rfl (by kernel_rfl) ?_))
  with_reducible refine ((unhide KL) _).mono ?_
  rintro e w3 ⟨rfl, hb⟩
  replace rc := rc.below hb rc.lt
  replace HB := HB.trans (hb.mono HB.size)
  clear hb
  go_wp2_with (first | (refine wpList_load_row rfl 35 _ rfl (w.heap.size) rfl _ _ _ _ rc Tryz.underlying35 rfl (by kernel_rfl) ?_))
  with_reducible refine ((unhide KC) _ ((L.below HB).more HB.size)).mono ?_
  rintro e w4 ⟨rfl, hb⟩
  replace rc := rc.below hb rc.lt
  replace HB := HB.trans (hb.mono HB.size)
  clear hb
  go_wp2_with (first | (refine wpList_load_row rfl 35 _ rfl (w.heap.size) rfl _ _ _ _ rc Tryz.underlying35 rfl (by kernel_rfl) ?_))
  with_reducible refine ((unhide K1) _ ((L.below HB).more HB.size)).mono ?_
  rintro e w5 ⟨⟨A, rfl, SA, fA⟩, hb⟩
  replace rc := rc.below hb rc.lt
  replace HB := HB.trans (hb.mono HB.size)
  clear hb
  clear fA
  have HS := Below.refl w5.heap.size w5
  obtain ⟨w6, eW6, sW6, rt, hb⟩ := box w5 #[.int .i64 0, .int .i64 0, .int .i64 0, .bool false, .int .i64 0, .int .i64 0, .slice none 0 0, .int .i64 0] 47 (g := w5.heap.size) rfl HB (by have := HB.size; omega)
  have Qrt : Hid (w.heap.size ≤ w5.heap.size ∧ w5.heap.size ≤ w5.heap.size ∧ w.heap.size < w5.heap.size) := Lib.hid ⟨by have := HB.size; omega, by have := HS.size; omega, by have := rc.lt; omega⟩
  replace rc := rc.al eW6
  replace HS : Below w5.heap.size w5 w6 := eW6 ▸ HS.alloc HS.size _
  replace HB := hb
  clear hb
  have qrc := Qrc.out
  have qrt := Qrt.out
  have uHS := HS.size
  have rto6 := rt
  obtain ⟨w7, eW7, sW7, hr, hb⟩ := rowX rt #[.int .i64 P.m.m, .int .i64 0, .int .i64 P.l.sup, .bool false, .int .i64 0, .int .i64 0, .slice A 3 3, .int .i64 0] (n := w5.heap.size + 1) sW6 HB (by omega)
  replace rc := rc.rowTo eW7 (by omega)
  replace rt := hr
  have HSo := HS
  replace HS : Below w5.heap.size w5 w7 := eW7 ▸ below_row HS (by omega)
  replace HB := hb
  clear hb hr qrc qrt uHS
  go_wp2_with (first | (refine wpList_load_row rfl 35 _ rfl (w.heap.size) rfl _ _ _ _ rc Tryz.underlying35 rfl (by kernel_rfl) ?_) | (refine wpList_store_row rfl 47 _ _ rfl (w5.heap.size) #[.int .i64 P.m.m, .int .i64 0, .int .i64 P.l.sup, .bool false, .int .i64 0, .int .i64 0, .slice A 3 3, .int .i64 0] rfl rfl _ _ rto6 (by kernel_rfl) (by kernel_rfl) (by kernel_rfl) ?_; try simp only [eW7]))
  with_reducible refine ((unhide K2) _ ((L.below HB).more HB.size)).mono ?_
  rintro e w8 ⟨rfl, hb⟩
  replace rc := rc.below hb rc.lt
  replace rt := rt.below hb rt.lt
  replace HB := HB.trans (hb.mono HB.size)
  replace HS := HS.trans (hb.mono HS.size)
  clear hb
  clear rto6 eW6 sW6 eW7 sW7
  go_wp2_with (first | (go_at_call 10; (with_reducible refine (I.num_nil _).mono ?_); rintro e w' ⟨rfl, rfl⟩))
  obtain ⟨w9, hw, sw⟩ := drewX w8
  replace rc : Blk w9 (w.heap.size) 35 #[.int .i64 P.m.r, .int .i64 P.m.m, .slice X.A1 X.n1 X.c1, .slice X.A2 X.n2 X.c2, .slice X.A3 X.n3 X.c3, .slice X.A4 X.n4 X.c4, .int .i64 P.m.p, .int .i64 P.m.s, .int .i64 P.m.f, .int .i64 P.l.num, .int .i64 P.l.den, .int .i64 P.l.sup, .int .i64 P.l.fed, .int .i64 P.l.ohm, .int .i64 P.l.bon, .int .i64 P.l.boff, .int .i64 P.l.bohm, .int .i64 P.g, .int .i64 P.d, .int .i64 P.y, .slice X.B1 X.m1 X.d1, .slice X.B2 X.m2 X.d2, .slice X.B3 X.m3 X.d3, .int .i64 P.wi, .int .i64 P.sw] := hw ▸ rc.drew
  have zrc := rc.lt
  replace rt : Blk w9 (w5.heap.size) 47 #[.int .i64 P.m.m, .int .i64 0, .int .i64 P.l.sup, .bool false, .int .i64 0, .int .i64 0, .slice A 3 3, .int .i64 0] := hw ▸ rt.drew
  have zrt := rt.lt
  replace HB : Below w.heap.size w w9 := hw ▸ HB.drew
  replace HS : Below w5.heap.size w5 w9 := hw ▸ HS.drew
  refine wp_region_multi (fun i => [3, 4, 5].contains i) (fun i => [3, 4].contains i) w9.heap.size (by kernel_rfl) ?_
  change wpX _ _ _ _ _ _ _ _ _ _ w8.drew
  rw [hw]
  clear hw sw
  have HR := Below.refl w9.heap.size w9
  apply wpX_take (i := 0) rfl rfl (by kernel_rfl) (fun _ _ _ h => h)
  · intro w' hb
    exact yv_load_row 47 _ rfl (w5.heap.size) rfl _ _ _ _ (rt.below hb zrt) Tryz.underlying47 rfl (by kernel_rfl)
  · go_simp
    exact rfl
  apply wpX_take (i := 1) rfl rfl (by kernel_rfl) (fun _ _ _ h => h)
  · intro w' hb
    exact yv_load_row 35 _ rfl (w.heap.size) rfl _ _ _ _ (rc.below hb zrc) Tryz.underlying35 rfl (by kernel_rfl)
  · go_simp
    exact rfl
  apply wpX_take (i := 2) rfl rfl (by kernel_rfl) (fun _ _ _ h => h)
  · intro w' hb
    unfold yv
    go_simp
    simp only [yvUpon]
    exact ⟨trivial, rfl⟩
  · go_simp
    exact rfl
  apply wpX_one (i := 3) rfl rfl (by kernel_rfl)
  unfold mild
  go_simp
  simp only [mildUpon]
  refine ⟨trivial, ?_⟩
  with_reducible refine ((unhide K3) _ ((L.below HB).more HB.size)).mono ?_
  rintro e w10 ⟨⟨B, rfl, SB⟩, hb⟩
  refine ⟨_, rfl, hb.mono HR.size, ?_⟩
  replace rc := rc.below hb rc.lt
  replace rt := rt.below hb rt.lt
  replace HB := HB.trans (hb.mono HB.size)
  replace HS := HS.trans (hb.mono HS.size)
  replace HR := HR.trans (hb.mono HR.size)
  clear hb
  have HT := Below.refl w10.heap.size w10
  apply wpX_one (i := 4) rfl rfl (by kernel_rfl)
  unfold mild
  go_simp
  simp only [mildUpon]
  refine ⟨trivial, ?_⟩
  with_reducible refine ((unhide KS) _ A B ((SA.below HS).more HS.size) ((SB.below HT).more HT.size)).mono ?_
  rintro e w11 ⟨rfl, hb⟩
  refine ⟨_, rfl, hb.mono HR.size, ?_⟩
  replace rc := rc.below hb rc.lt
  replace rt := rt.below hb rt.lt
  replace HB := HB.trans (hb.mono HB.size)
  replace HS := HS.trans (hb.mono HS.size)
  replace HR := HR.trans (hb.mono HR.size)
  replace HT := HT.trans (hb.mono HT.size)
  clear hb
  refine wpX_rest (k := 5) (by kernel_rfl) ?_
  simp only [List.drop_succ_cons, List.drop_zero]
  go_wp2
  go_ret
  exact ⟨rfl, HB⟩
theorem pchecks_walk (P : Pc) (X : Pa) (amb : Int) (w : World) (L : Py w w.heap.size P X) :
    Calls Tryz.prog 3 #[.agg #[.int .i64 P.m.r, .int .i64 P.m.m, .slice X.A1 X.n1 X.c1, .slice X.A2 X.n2 X.c2, .slice X.A3 X.n3 X.c3, .slice X.A4 X.n4 X.c4, .int .i64 P.m.p, .int .i64 P.m.s, .int .i64 P.m.f, .int .i64 P.l.num, .int .i64 P.l.den, .int .i64 P.l.sup, .int .i64 P.l.fed, .int .i64 P.l.ohm, .int .i64 P.l.bon, .int .i64 P.l.boff, .int .i64 P.l.bohm, .int .i64 P.g, .int .i64 P.d, .int .i64 P.y, .slice X.B1 X.m1 X.d1, .slice X.B2 X.m2 X.d2, .slice X.B3 X.m3 X.d3, .int .i64 P.wi, .int .i64 P.sw], .int .i64 amb] w fun e w' => e = .returned (.bool true) ∧ Below w.heap.size w w' := by
  cases hl : lgP X 0 0 with
  | true => exact pchecks_large P X amb w hl
  | false =>
    by_cases hc : plCode P = 0
    · exact pchecks_ok P X amb w L hl hc
    · exact pchecks_bad P X amb w L hl hc
end Go.Proofs.YtpfkiohknpeifaaGreat
