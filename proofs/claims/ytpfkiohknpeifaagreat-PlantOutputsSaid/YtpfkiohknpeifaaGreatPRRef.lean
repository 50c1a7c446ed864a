/- The walks of the reference's loss, Start, Input and Outputs of a plant. -/
import Derived.Test.YtpfkiohknpeifaaGreatPRHeat
import Derived.Test.YtpfkiohknpeifaaGreatPShaftR
import Derived.Test.YtpfkiohknpeifaaGreatPOut
import Derived.Test.YtpfkiohknpeifaaGreatMulti
import Derived.Test.YtpfkiohknpeifaaGreatRow
import Derived.Test.YtpfkiohknpeifaaGreatRBreak
import Derived.Test.YtpfkiohknpeifaaGreatRSame
namespace Go.Proofs.YtpfkiohknpeifaaGreat
open Go.RowKit
theorem gstartR (P : Pc) (X : Pa)  (w : World) (L : Py w w.heap.size P X) (hc : cfCode P.m = 0) :
    Calls Tryz.prog 35 #[.agg #[.int .i64 P.m.r, .int .i64 P.m.m, .slice X.A1 X.n1 X.c1, .slice X.A2 X.n2 X.c2, .slice X.A3 X.n3 X.c3, .slice X.A4 X.n4 X.c4, .int .i64 P.m.p, .int .i64 P.m.s, .int .i64 P.m.f]] w fun e w' => e = .returned (.agg #[.int .i64 P.m.m, .int .i64 0]) ∧ Below w.heap.size w w' := by
  have h := L.m
  obtain ⟨a1, a2, a3, a4, e1, e2, e3, e4, e5, e6⟩ := h.ptrs (cf_ok hc)
  rw [e1, e2, e3, e4, e5, e6] at h ⊢
  exact startR P.m a1 a2 a3 a4 X.n1 X.n3 X.c1 X.c2 X.c3 X.c4  w
theorem gphaR (P : Pc) (X : Pa) (fd fq an : Int) (w : World) (L : Py w w.heap.size P X) (hc : cfCode P.m = 0) :
    Calls Tryz.prog 52 #[.agg #[.int .i64 P.m.r, .int .i64 P.m.m, .slice X.A1 X.n1 X.c1, .slice X.A2 X.n2 X.c2, .slice X.A3 X.n3 X.c3, .slice X.A4 X.n4 X.c4, .int .i64 P.m.p, .int .i64 P.m.s, .int .i64 P.m.f], .agg #[.int .i64 fd, .int .i64 fq], .int .i64 an] w fun e w' => e = .returned (.agg #[.int .i64 (phU P.m fd fq an), .int .i64 (phB (phU P.m fd fq an) (phV P.m fd fq an)), .int .i64 (-phU P.m fd fq an - phB (phU P.m fd fq an) (phV P.m fd fq an))]) ∧ Below w.heap.size w w' := by
  have h := L.m
  obtain ⟨a1, a2, a3, a4, e1, e2, e3, e4, e5, e6⟩ := h.ptrs (cf_ok hc)
  rw [e1, e2, e3, e4, e5, e6] at h ⊢
  exact phasesR P.m a1 a2 a3 a4 X.n1 X.n3 X.c1 X.c2 X.c3 X.c4 fd fq an w h (cf_ok hc)
theorem gtorR (P : Pc) (X : Pa) (fd fq : Int) (w : World) (L : Py w w.heap.size P X) (hc : cfCode P.m = 0) :
    Calls Tryz.prog 60 #[.agg #[.int .i64 P.m.r, .int .i64 P.m.m, .slice X.A1 X.n1 X.c1, .slice X.A2 X.n2 X.c2, .slice X.A3 X.n3 X.c3, .slice X.A4 X.n4 X.c4, .int .i64 P.m.p, .int .i64 P.m.s, .int .i64 P.m.f], .agg #[.int .i64 fd, .int .i64 fq]] w fun e w' => e = .returned (.int .i64 (torq P.m fd fq)) ∧ Below w.heap.size w w' := by
  have h := L.m
  obtain ⟨a1, a2, a3, a4, e1, e2, e3, e4, e5, e6⟩ := h.ptrs (cf_ok hc)
  rw [e1, e2, e3, e4, e5, e6] at h ⊢
  exact torqueR P.m a1 a2 a3 a4 X.n1 X.n3 X.c1 X.c2 X.c3 X.c4 fd fq w h (cf_ok hc)
theorem goffR (P : Pc) (X : Pa) (fd fq : Int) (w : World) (L : Py w w.heap.size P X) (hc : cfCode P.m = 0) :
    Calls Tryz.prog 56 #[.agg #[.int .i64 P.m.r, .int .i64 P.m.m, .slice X.A1 X.n1 X.c1, .slice X.A2 X.n2 X.c2, .slice X.A3 X.n3 X.c3, .slice X.A4 X.n4 X.c4, .int .i64 P.m.p, .int .i64 P.m.s, .int .i64 P.m.f], .agg #[.int .i64 fd, .int .i64 fq]] w fun e w' => e = .returned (.agg #[.int .i64 (ofD P.m fd fq), .int .i64 (ofQ P.m fd fq)]) ∧ Below w.heap.size w w' := by
  have h := L.m
  obtain ⟨a1, a2, a3, a4, e1, e2, e3, e4, e5, e6⟩ := h.ptrs (cf_ok hc)
  rw [e1, e2, e3, e4, e5, e6] at h ⊢
  exact offTR P.m a1 a2 a3 a4 X.n1 X.n3 X.c1 X.c2 X.c3 X.c4 fd fq w h (cf_ok hc)
theorem gstepR (P : Pc) (X : Pa) (fd fq vd vq tn : Int) (w : World) (L : Py w w.heap.size P X) (hc : cfCode P.m = 0) :
    Calls Tryz.prog 58 #[.agg #[.int .i64 P.m.r, .int .i64 P.m.m, .slice X.A1 X.n1 X.c1, .slice X.A2 X.n2 X.c2, .slice X.A3 X.n3 X.c3, .slice X.A4 X.n4 X.c4, .int .i64 P.m.p, .int .i64 P.m.s, .int .i64 P.m.f], .agg #[.int .i64 fd, .int .i64 fq], .agg #[.int .i64 vd, .int .i64 vq, .int .i64 tn]] w fun e w' => e = .returned (.agg #[.int .i64 (P.m.m + inX P.m.dx (stD P.m fd fq vd tn - P.m.m)), .int .i64 (inX P.m.qx (stQ P.m fd fq vq tn))]) ∧ Below w.heap.size w w' := by
  have h := L.m
  obtain ⟨a1, a2, a3, a4, e1, e2, e3, e4, e5, e6⟩ := h.ptrs (cf_ok hc)
  rw [e1, e2, e3, e4, e5, e6] at h ⊢
  exact stepR P.m a1 a2 a3 a4 X.n1 X.n3 X.c1 X.c2 X.c3 X.c4 fd fq vd vq tn w h (cf_ok hc)
theorem wrapRQ (p : Int) (w : World) : Calls Tryz.prog 67 #[.int .i64 p] w fun e w' => e = .returned (.int .i64 (wrapP p)) ∧ w' = w :=
  (wrapR p w).mono fun _ _ ⟨he, hw⟩ => ⟨he, hw.symm⟩
set_option maxRecDepth 100000 in
set_option maxHeartbeats 1600000 in
theorem rlossR (a b c f : Int) (w : World) : Calls Tryz.prog 64 #[.agg #[.int .i64 a, .int .i64 b, .int .i64 c], .int .i64 f] w fun e w' => e = .returned (.int .i64 (lossS a b c f)) ∧ Below w.heap.size w w' := by
  have b1 := lossV_bd a f
  have b2 := lossV_bd b f
  have b3 := lossV_bd c f
  have h1 := fun W => lossRQ a f W
  have h2 := fun W => lossRQ b f W
  have h3 := fun W => lossRQ c f W
  have hv : lossS a b c f = lossV a f + lossV b f + lossV c f := rfl
  obtain ⟨x, hx⟩ : ∃ x, lossV a f = x := ⟨_, rfl⟩
  obtain ⟨y, hy⟩ : ∃ x, lossV b f = x := ⟨_, rfl⟩
  obtain ⟨z, hz⟩ : ∃ x, lossV c f = x := ⟨_, rfl⟩
  rw [hx] at b1 hv
  rw [hy] at b2 hv
  rw [hz] at b3 hv
  simp only [hx] at h1
  simp only [hy] at h2
  simp only [hz] at h3
  rw [hv]
  have e1 : wrap64 (x + y) = x + y := by unfold wrap64; omega
  have e2 : wrap64 (x + y + z) = x + y + z := by unfold wrap64; omega
  have e1b : IntKind.i64.wrap (x + y) = x + y := IntWalk.i64_in _ (by omega)
  have e2b : IntKind.i64.wrap (x + y + z) = x + y + z := IntWalk.i64_in _ (by omega)
  have H1 := hide h1
  have H2 := hide h2
  have H3 := hide h3
  clear h1 h2 h3 hv hx hy hz b1 b2 b3
  have HB := Below.refl w.heap.size w
  obtain ⟨w1, eW1, sW1, ra, hb⟩ := box w #[.int .i64 a, .int .i64 b, .int .i64 c] 67 (g := w.heap.size) rfl HB (by have := HB.size; omega)
  have Qra : Hid (w.heap.size ≤ w.heap.size) := Lib.hid (by have := HB.size; omega)
  replace HB := hb
  clear hb
  go_enter Tryz.func64, Tryz.ntmps64
  have rac0 := ra.cell 0
  have rac1 := ra.cell 1
  have rac2 := ra.cell 2
  go_wp2_with fail
  refine wp_region_mix 14 (by kernel_rfl) (by kernel_rfl) (fun _ _ _ _ _ h => h) ?_
  simp only [List.take_succ_cons, List.take_zero, List.drop_succ_cons, List.drop_zero]
  repeat still_step
  still_call ((unhide H1) _)
  repeat still_step
  still_call ((unhide H2) _)
  repeat still_step
  still_call ((unhide H3) _)
  repeat still_step
  refine wpStill_nil ?_
  change wpList _ _ _ _ _ w1.drew
  obtain ⟨w2, hw⟩ : ∃ W, w1.drew = W := ⟨_, rfl⟩
  replace ra : Blk w2 (w.heap.size) 67 #[.int .i64 a, .int .i64 b, .int .i64 c] := hw ▸ ra.drew
  replace HB : Below w.heap.size w w2 := hw ▸ HB.drew
  simp only [hw]
  clear hw
  clear rac0 rac1 rac2 eW1 sW1
  go_wp2
  go_ret
  exact ⟨rfl, HB⟩
set_option maxRecDepth 100000 in
set_option maxHeartbeats 3200000 in
theorem rstartP (P : Pc) (X : Pa) (amb : Int) (w : World) (L : Py w w.heap.size P X) (hc : plCode P = 0) :
    Calls Tryz.prog 13 #[.agg #[.int .i64 P.m.r, .int .i64 P.m.m, .slice X.A1 X.n1 X.c1, .slice X.A2 X.n2 X.c2, .slice X.A3 X.n3 X.c3, .slice X.A4 X.n4 X.c4, .int .i64 P.m.p, .int .i64 P.m.s, .int .i64 P.m.f, .int .i64 P.l.num, .int .i64 P.l.den, .int .i64 P.l.sup, .int .i64 P.l.fed, .int .i64 P.l.ohm, .int .i64 P.l.bon, .int .i64 P.l.boff, .int .i64 P.l.bohm, .int .i64 P.g, .int .i64 P.d, .int .i64 P.y, .slice X.B1 X.m1 X.d1, .slice X.B2 X.m2 X.d2, .slice X.B3 X.m3 X.d3, .int .i64 P.wi, .int .i64 P.sw], .int .i64 amb] w fun e w' => (∃ A, e = .returned (.agg #[.int .i64 P.m.m, .int .i64 0, .int .i64 P.l.sup, .bool false, .int .i64 0, .int .i64 0, .slice A 3 3, .int .i64 0]) ∧ Sl w' w'.heap.size 1 A (rows [warmV amb, warmV amb, warmV amb])) ∧ Below w.heap.size w w' := by
  have ok := pl_ok hc
  have k1 := fun (W : World) => warmR amb W
  have k2 := fun (W : World) (h : Py W W.heap.size P X) => gstartR P X W h ok.m
  obtain ⟨a, ha⟩ : ∃ x, warmV amb = x := ⟨_, rfl⟩
  simp only [ha] at k1 ⊢
  have K1 := hide k1
  have K2 := hide k2
  clear k1 k2 ok hc ha
  have HB := Below.refl w.heap.size w
  obtain ⟨w1, eW1, sW1, rc, hb⟩ := box w #[.int .i64 P.m.r, .int .i64 P.m.m, .slice X.A1 X.n1 X.c1, .slice X.A2 X.n2 X.c2, .slice X.A3 X.n3 X.c3, .slice X.A4 X.n4 X.c4, .int .i64 P.m.p, .int .i64 P.m.s, .int .i64 P.m.f, .int .i64 P.l.num, .int .i64 P.l.den, .int .i64 P.l.sup, .int .i64 P.l.fed, .int .i64 P.l.ohm, .int .i64 P.l.bon, .int .i64 P.l.boff, .int .i64 P.l.bohm, .int .i64 P.g, .int .i64 P.d, .int .i64 P.y, .slice X.B1 X.m1 X.d1, .slice X.B2 X.m2 X.d2, .slice X.B3 X.m3 X.d3, .int .i64 P.wi, .int .i64 P.sw] 35 (g := w.heap.size) rfl HB (by have := HB.size; omega)
  have Qrc : Hid (w.heap.size ≤ w.heap.size) := Lib.hid (by have := HB.size; omega)
  replace HB := hb
  clear hb
  obtain ⟨w2, eW2, sW2, gz, hb⟩ := box w1 #[.int .i64 0, .int .i64 0, .int .i64 0, .bool false, .int .i64 0, .int .i64 0, .slice none 0 0, .int .i64 0] 47 (g := w.heap.size + 1) sW1 HB (by have := HB.size; omega)
  have Qgz : Hid (w.heap.size ≤ w.heap.size + 1 ∧ w.heap.size < w.heap.size + 1) := Lib.hid ⟨by have := HB.size; omega, by have := rc.lt; omega⟩
  replace rc := rc.al eW2
  replace HB := hb
  clear hb
  go_enter Tryz.func13, Tryz.ntmps13
  go_wp2_with (first | (go_at_call 34; (with_reducible refine ((unhide K1) _).mono ?_); rintro e w' ⟨rfl, rfl⟩))
  clear eW1 sW1 eW2 sW2
  obtain ⟨w3, hw, sw⟩ := drewX w2
  replace rc : Blk w3 (w.heap.size) 35 #[.int .i64 P.m.r, .int .i64 P.m.m, .slice X.A1 X.n1 X.c1, .slice X.A2 X.n2 X.c2, .slice X.A3 X.n3 X.c3, .slice X.A4 X.n4 X.c4, .int .i64 P.m.p, .int .i64 P.m.s, .int .i64 P.m.f, .int .i64 P.l.num, .int .i64 P.l.den, .int .i64 P.l.sup, .int .i64 P.l.fed, .int .i64 P.l.ohm, .int .i64 P.l.bon, .int .i64 P.l.boff, .int .i64 P.l.bohm, .int .i64 P.g, .int .i64 P.d, .int .i64 P.y, .slice X.B1 X.m1 X.d1, .slice X.B2 X.m2 X.d2, .slice X.B3 X.m3 X.d3, .int .i64 P.wi, .int .i64 P.sw] := hw ▸ rc.drew
  have zrc := rc.lt
  replace gz : Blk w3 (w.heap.size + 1) 47 #[.int .i64 0, .int .i64 0, .int .i64 0, .bool false, .int .i64 0, .int .i64 0, .slice none 0 0, .int .i64 0] := hw ▸ gz.drew
  have zgz := gz.lt
  replace HB : Below w.heap.size w w3 := hw ▸ HB.drew
  refine wp_region_multi (fun i => [2, 10, 12].contains i) (fun i => [2, 10].contains i) w3.heap.size (by kernel_rfl) ?_
  change wpX _ _ _ _ _ _ _ _ _ _ w2.drew
  rw [hw]
  clear hw sw
  have HR := Below.refl w3.heap.size w3
  apply wpX_take (i := 0) rfl rfl (by kernel_rfl) (fun _ _ _ h => h)
  · intro w' hb
    unfold yv
    go_simp
    simp only [yvUpon]
    exact ⟨trivial, rfl⟩
  · go_simp
    exact rfl
  apply wpX_take (i := 1) rfl rfl (by kernel_rfl) (fun _ _ _ h => h)
  · intro w' hb
    have yrc0 := (rc.below hb zrc).cell 0
    have yrc1 := (rc.below hb zrc).cell 1
    have yrc2 := (rc.below hb zrc).cell 2
    have yrc3 := (rc.below hb zrc).cell 3
    have yrc4 := (rc.below hb zrc).cell 4
    have yrc5 := (rc.below hb zrc).cell 5
    have yrc6 := (rc.below hb zrc).cell 6
    have yrc7 := (rc.below hb zrc).cell 7
    have yrc8 := (rc.below hb zrc).cell 8
    unfold yv
    go_simp
    simp only [yvUpon]
    exact ⟨trivial, rfl⟩
  · go_simp
    exact rfl
  apply wpX_take (i := 3) rfl rfl (by kernel_rfl) (fun _ _ _ h => h)
  · intro w' hb
    unfold yv
    go_simp
    simp only [yvUpon]
    exact ⟨trivial, rfl⟩
  · go_simp
    exact rfl
  apply wpX_take (i := 4) rfl rfl (by kernel_rfl) (fun _ _ _ h => h)
  · intro w' hb
    unfold yv
    go_simp
    simp only [yvUpon]
    exact ⟨trivial, rfl⟩
  · go_simp
    exact rfl
  apply wpX_take (i := 5) rfl rfl (by kernel_rfl) (fun _ _ _ h => h)
  · intro w' hb
    have yrc11 := (rc.below hb zrc).cell 11
    unfold yv
    go_simp
    simp only [yvUpon]
    exact ⟨trivial, rfl⟩
  · go_simp
    exact rfl
  apply wpX_take (i := 6) rfl rfl (by kernel_rfl) (fun _ _ _ h => h)
  · intro w' hb
    unfold yv
    go_simp
    simp only [yvUpon]
    exact ⟨trivial, rfl⟩
  · go_simp
    exact rfl
  apply wpX_take (i := 7) rfl rfl (by kernel_rfl) (fun _ _ _ h => h)
  · intro w' hb
    unfold yv
    go_simp
    simp only [yvUpon]
    exact ⟨trivial, rfl⟩
  · go_simp
    exact rfl
  apply wpX_take (i := 8) rfl rfl (by kernel_rfl) (fun _ _ _ h => h)
  · intro w' hb
    unfold yv
    go_simp
    simp only [yvUpon]
    exact ⟨trivial, rfl⟩
  · go_simp
    exact rfl
  apply wpX_take (i := 9) rfl rfl (by kernel_rfl) (fun _ _ _ h => h)
  · intro w' hb
    unfold yv
    go_simp
    simp only [yvUpon]
    exact ⟨trivial, rfl⟩
  · go_simp
    exact rfl
  apply wpX_two (i := 2) (k := 10) rfl rfl rfl rfl (by kernel_rfl)
  · unfold mild
    go_simp
    simp only [mildUpon]
    refine ⟨trivial, ?_⟩
    with_reducible refine ((unhide K2) _ ((L.below HB).more HB.size)).mono ?_
    rintro e w4 ⟨rfl, hb⟩
    refine ⟨_, rfl, hb.mono HR.size, ?_⟩
    replace rc := rc.below hb rc.lt
    replace gz := gz.below hb gz.lt
    replace HB := HB.trans (hb.mono HB.size)
    replace HR := HR.trans (hb.mono HR.size)
    clear hb
    apply wpX_one (i := 10) rfl rfl (by kernel_rfl)
    unfold mild
    go_simp
    simp only [mildUpon]
    refine ⟨(Below.refl _ _).alloc HR.size _, ?_⟩
    obtain ⟨w5, eW5, sW5, rp, hb⟩ := box w4 #[.int .i64 a, .int .i64 a, .int .i64 a] 3 (g := w4.heap.size) rfl HB (by have := HB.size; omega)
    have Qrp : Hid (w.heap.size ≤ w4.heap.size ∧ w3.heap.size ≤ w4.heap.size ∧ w.heap.size < w4.heap.size ∧ w.heap.size + 1 < w4.heap.size) := Lib.hid ⟨by have := HB.size; omega, by have := HR.size; omega, by have := rc.lt; omega, by have := gz.lt; omega⟩
    replace rc := rc.al eW5
    replace gz := gz.al eW5
    replace HR : Below w3.heap.size w3 w5 := eW5 ▸ HR.alloc HR.size _
    replace HB := hb
    clear hb
    rw [eW5]
    clear eW5 sW5
    apply wpX_take (i := 11) rfl rfl (by kernel_rfl) (fun _ _ _ h => h)
    · intro w' hb
      unfold yv
      go_simp
      simp only [yvUpon]
      exact ⟨trivial, rfl⟩
    · go_simp
      exact rfl
    refine wpX_rest (k := 12) (by kernel_rfl) ?_
    simp only [List.drop_succ_cons, List.drop_zero]
    have qrc := Qrc.out
    have qgz := Qgz.out
    have qrp := Qrp.out
    have gzo5 := gz
    obtain ⟨w6, eW6, sW6, hr, hb⟩ := rowX gz #[.int .i64 P.m.m, .int .i64 0, .int .i64 P.l.sup, .bool false, .int .i64 0, .int .i64 0, .slice (some ⟨w4.heap.size, 0, none⟩) 3 3, .int .i64 0] (n := w5.heap.size) rfl HB (by omega)
    replace rc := rc.rowTo eW6 (by omega)
    replace rp := rp.rowTo eW6 (by omega)
    replace gz := hr
    replace HB := hb
    clear hb hr qrc qgz qrp
    go_wp2_with (first | (refine wpList_store_row rfl 47 _ _ rfl (w.heap.size + 1) #[.int .i64 P.m.m, .int .i64 0, .int .i64 P.l.sup, .bool false, .int .i64 0, .int .i64 0, .slice (some ⟨w4.heap.size, 0, none⟩) 3 3, .int .i64 0] rfl rfl _ _ gzo5 (by kernel_rfl) (by kernel_rfl) (by kernel_rfl) ?_))
    try simp only [eW6]
    exact bodyPost_ret (ret_cell rfl rfl (load_ps gz)) rfl ⟨⟨_, rfl, sl_three rp rp.lt⟩, HB⟩
  · unfold mild
    go_simp
    simp only [mildUpon]
    refine ⟨(Below.refl _ _).alloc HR.size _, ?_⟩
    obtain ⟨w4, eW4, sW4, rp, hb⟩ := box w3 #[.int .i64 a, .int .i64 a, .int .i64 a] 3 (g := w3.heap.size) rfl HB (by have := HB.size; omega)
    have Qrp : Hid (w.heap.size ≤ w3.heap.size ∧ w3.heap.size ≤ w3.heap.size ∧ w.heap.size < w3.heap.size ∧ w.heap.size + 1 < w3.heap.size) := Lib.hid ⟨by have := HB.size; omega, by have := HR.size; omega, by have := rc.lt; omega, by have := gz.lt; omega⟩
    replace rc := rc.al eW4
    replace gz := gz.al eW4
    replace HR : Below w3.heap.size w3 w4 := eW4 ▸ HR.alloc HR.size _
    replace HB := hb
    clear hb
    rw [eW4]
    clear eW4 sW4
    apply wpX_one (i := 2) rfl rfl (by kernel_rfl)
    unfold mild
    go_simp
    simp only [mildUpon]
    refine ⟨trivial, ?_⟩
    with_reducible refine ((unhide K2) _ ((L.below HB).more HB.size)).mono ?_
    rintro e w5 ⟨rfl, hb⟩
    refine ⟨_, rfl, hb.mono HR.size, ?_⟩
    replace rc := rc.below hb rc.lt
    replace gz := gz.below hb gz.lt
    replace rp := rp.below hb rp.lt
    replace HB := HB.trans (hb.mono HB.size)
    replace HR := HR.trans (hb.mono HR.size)
    clear hb
    apply wpX_take (i := 11) rfl rfl (by kernel_rfl) (fun _ _ _ h => h)
    · intro w' hb
      unfold yv
      go_simp
      simp only [yvUpon]
      exact ⟨trivial, rfl⟩
    · go_simp
      exact rfl
    refine wpX_rest (k := 12) (by kernel_rfl) ?_
    simp only [List.drop_succ_cons, List.drop_zero]
    have qrc := Qrc.out
    have qgz := Qgz.out
    have qrp := Qrp.out
    have gzo5 := gz
    obtain ⟨w6, eW6, sW6, hr, hb⟩ := rowX gz #[.int .i64 P.m.m, .int .i64 0, .int .i64 P.l.sup, .bool false, .int .i64 0, .int .i64 0, .slice (some ⟨w3.heap.size, 0, none⟩) 3 3, .int .i64 0] (n := w5.heap.size) rfl HB (by omega)
    replace rc := rc.rowTo eW6 (by omega)
    replace rp := rp.rowTo eW6 (by omega)
    replace gz := hr
    replace HB := hb
    clear hb hr qrc qgz qrp
    go_wp2_with (first | (refine wpList_store_row rfl 47 _ _ rfl (w.heap.size + 1) #[.int .i64 P.m.m, .int .i64 0, .int .i64 P.l.sup, .bool false, .int .i64 0, .int .i64 0, .slice (some ⟨w3.heap.size, 0, none⟩) 3 3, .int .i64 0] rfl rfl _ _ gzo5 (by kernel_rfl) (by kernel_rfl) (by kernel_rfl) ?_))
    try simp only [eW6]
    exact bodyPost_ret (ret_cell rfl rfl (load_ps gz)) rfl ⟨⟨_, rfl, sl_three rp rp.lt⟩, HB⟩
theorem grp3' {α β γ : Type} {p q r : α → β → γ → Prop} {s : Prop} (h : ∃ a b c, p a b c ∧ q a b c ∧ r a b c ∧ s) : (∃ a b c, p a b c ∧ q a b c ∧ r a b c) ∧ s :=
  let ⟨a, b, c, h1, h2, h3, h4⟩ := h
  ⟨⟨a, b, c, h1, h2, h3⟩, h4⟩
set_option maxRecDepth 100000 in
set_option maxHeartbeats 3200000 in
theorem rinP_1 (s : Ps) (YA : Option Addr) (yn yc : Nat) (z : Pi) (GA : Option Addr) (gn gc : Nat) (w : World) (ey : yn = s.h.length)  (h3 : s.h.length ≠ 3) :
    Calls Tryz.prog 15 #[.agg #[.int .i64 s.fd, .int .i64 s.fq, .int .i64 s.v, .bool s.b, .int .i64 s.po, .int .i64 s.sp, .slice YA yn yc, .int .i64 s.tn], .agg #[.int .i64 z.per, .bool z.b0, .bool z.b1, .bool z.b2, .bool z.b3, .bool z.b4, .bool z.b5, .slice GA gn gc, .int .i64 z.ld, .int .i64 z.amb, .bool z.k0, .bool z.k1, .bool z.k2, .bool z.k3, .bool z.k4, .bool z.k5, .bool z.de, .bool z.nb]] w fun e w' => e = .returned (.int .i64 11) ∧ Below w.heap.size w w' := by
  have h3i : ¬ (yn : Int) = 3 := by omega
  clear h3 ey
  have HB := Below.refl w.heap.size w
  obtain ⟨w1, eW1, sW1, rs, hb⟩ := box w #[.int .i64 s.fd, .int .i64 s.fq, .int .i64 s.v, .bool s.b, .int .i64 s.po, .int .i64 s.sp, .slice YA yn yc, .int .i64 s.tn] 47 (g := w.heap.size) rfl HB (by have := HB.size; omega)
  have Qrs : Hid (w.heap.size ≤ w.heap.size) := Lib.hid (by have := HB.size; omega)
  replace HB := hb
  clear hb
  obtain ⟨w2, eW2, sW2, ri, hb⟩ := box w1 #[.int .i64 z.per, .bool z.b0, .bool z.b1, .bool z.b2, .bool z.b3, .bool z.b4, .bool z.b5, .slice GA gn gc, .int .i64 z.ld, .int .i64 z.amb, .bool z.k0, .bool z.k1, .bool z.k2, .bool z.k3, .bool z.k4, .bool z.k5, .bool z.de, .bool z.nb] 53 (g := w.heap.size + 1) sW1 HB (by have := HB.size; omega)
  have Qri : Hid (w.heap.size ≤ w.heap.size + 1 ∧ w.heap.size < w.heap.size + 1) := Lib.hid ⟨by have := HB.size; omega, by have := rs.lt; omega⟩
  replace rs := rs.al eW2
  replace HB := hb
  clear hb
  go_enter Tryz.func15, Tryz.ntmps15
  have rsc6 := rs.cell 6
  go_wp2
  go_ret
  exact ⟨rfl, HB⟩
set_option maxRecDepth 100000 in
set_option maxHeartbeats 3200000 in
theorem rinP_2 (s : Ps) (YA : Option Addr) (yn yc : Nat) (z : Pi) (GA : Option Addr) (gn gc : Nat) (w : World) (ey : yn = s.h.length) (SG : Sl w w.heap.size 3 GA (z.es.map I.Ed.row)) (eg : gn = z.es.length) (gm : gn ≤ 1000000) (h3 : s.h.length = 3) (hk : I.chk z.per z.es ≠ 0) :
    Calls Tryz.prog 15 #[.agg #[.int .i64 s.fd, .int .i64 s.fq, .int .i64 s.v, .bool s.b, .int .i64 s.po, .int .i64 s.sp, .slice YA yn yc, .int .i64 s.tn], .agg #[.int .i64 z.per, .bool z.b0, .bool z.b1, .bool z.b2, .bool z.b3, .bool z.b4, .bool z.b5, .slice GA gn gc, .int .i64 z.ld, .int .i64 z.amb, .bool z.k0, .bool z.k1, .bool z.k2, .bool z.k3, .bool z.k4, .bool z.k5, .bool z.de, .bool z.nb]] w fun e w' => e = .returned (.int .i64 (I.chk z.per z.es)) ∧ Below w.heap.size w w' := by
  obtain rfl : yn = 3 := by omega
  have k2 := fun (W : World) (h : Sl W W.heap.size 3 GA (z.es.map I.Ed.row)) => I.rchk_walk z.per z.b0 z.b1 z.b2 z.b3 z.b4 z.b5 GA gn gc z.es W h eg gm
  obtain ⟨cd, hcd⟩ : ∃ x, I.chk z.per z.es = x := ⟨_, rfl⟩
  rw [hcd] at hk ⊢
  simp only [hcd] at k2
  have K2 := hide k2
  clear k2 hcd h3 ey eg gm
  have HB := Below.refl w.heap.size w
  obtain ⟨w1, eW1, sW1, rs, hb⟩ := box w #[.int .i64 s.fd, .int .i64 s.fq, .int .i64 s.v, .bool s.b, .int .i64 s.po, .int .i64 s.sp, .slice YA 3 yc, .int .i64 s.tn] 47 (g := w.heap.size) rfl HB (by have := HB.size; omega)
  have Qrs : Hid (w.heap.size ≤ w.heap.size) := Lib.hid (by have := HB.size; omega)
  replace HB := hb
  clear hb
  obtain ⟨w2, eW2, sW2, ri, hb⟩ := box w1 #[.int .i64 z.per, .bool z.b0, .bool z.b1, .bool z.b2, .bool z.b3, .bool z.b4, .bool z.b5, .slice GA gn gc, .int .i64 z.ld, .int .i64 z.amb, .bool z.k0, .bool z.k1, .bool z.k2, .bool z.k3, .bool z.k4, .bool z.k5, .bool z.de, .bool z.nb] 53 (g := w.heap.size + 1) sW1 HB (by have := HB.size; omega)
  have Qri : Hid (w.heap.size ≤ w.heap.size + 1 ∧ w.heap.size < w.heap.size + 1) := Lib.hid ⟨by have := HB.size; omega, by have := rs.lt; omega⟩
  replace rs := rs.al eW2
  replace HB := hb
  clear hb
  go_enter Tryz.func15, Tryz.ntmps15
  have rsc6 := rs.cell 6
  have ric0 := ri.cell 0
  have ric1 := ri.cell 1
  have ric2 := ri.cell 2
  have ric3 := ri.cell 3
  have ric4 := ri.cell 4
  have ric5 := ri.cell 5
  have ric6 := ri.cell 6
  have ric7 := ri.cell 7
  go_wp2_with fail
  with_reducible refine ((unhide K2) _ ((SG.below HB).more HB.size)).mono ?_
  rintro e w3 ⟨rfl, hb⟩
  replace rs := rs.below hb rs.lt
  replace ri := ri.below hb ri.lt
  replace HB := HB.trans (hb.mono HB.size)
  clear hb
  clear rsc6 ric0 ric1 ric2 ric3 ric4 ric5 ric6 ric7 eW1 sW1 eW2 sW2
  go_wp2
  go_ret
  exact ⟨rfl, HB⟩
set_option maxRecDepth 100000 in
set_option maxHeartbeats 3200000 in
theorem rinP_3 (s : Ps) (YA : Option Addr) (yn yc : Nat) (z : Pi) (GA : Option Addr) (gn gc : Nat) (w : World) (ey : yn = s.h.length) (SG : Sl w w.heap.size 3 GA (z.es.map I.Ed.row)) (eg : gn = z.es.length) (gm : gn ≤ 1000000) (h3 : s.h.length = 3) (hk : I.chk z.per z.es = 0) (hs : I.shrt z.per (zOn z) (zEs z) = true) :
    Calls Tryz.prog 15 #[.agg #[.int .i64 s.fd, .int .i64 s.fq, .int .i64 s.v, .bool s.b, .int .i64 s.po, .int .i64 s.sp, .slice YA yn yc, .int .i64 s.tn], .agg #[.int .i64 z.per, .bool z.b0, .bool z.b1, .bool z.b2, .bool z.b3, .bool z.b4, .bool z.b5, .slice GA gn gc, .int .i64 z.ld, .int .i64 z.amb, .bool z.k0, .bool z.k1, .bool z.k2, .bool z.k3, .bool z.k4, .bool z.k5, .bool z.de, .bool z.nb]] w fun e w' => e = .returned (.int .i64 15) ∧ Below w.heap.size w w' := by
  obtain rfl : yn = 3 := by omega
  have k2 := fun (W : World) (h : Sl W W.heap.size 3 GA (z.es.map I.Ed.row)) => I.rchk_walk z.per z.b0 z.b1 z.b2 z.b3 z.b4 z.b5 GA gn gc z.es W h eg gm
  simp only [hk] at k2
  have K2 := hide k2
  have k3 := fun (W : World) (h : Sl W W.heap.size 3 GA (z.es.map I.Ed.row)) => (I.rbreak_walk z.per z.b0 z.b1 z.b2 z.b3 z.b4 z.b5 z.k0 z.k1 z.k2 z.k3 z.k4 z.k5 GA gn gc z.es W h eg gm).mono fun _ _ q => grp3' q
  have hz : I.brk [z.k0, z.k1, z.k2, z.k3, z.k4, z.k5] z.es = zEs z := rfl
  simp only [hz] at k3
  have K3 := hide k3
  have hl := I.brk_length [z.k0, z.k1, z.k2, z.k3, z.k4, z.k5] z.es
  have hck := I.brk_chk [z.k0, z.k1, z.k2, z.k3, z.k4, z.k5] hk
  have hm : (zEs z).length ≤ 1000000 := by unfold zEs; omega
  rw [hz] at hck
  rw [I.shrt_ok hck] at hs
  have k4 := fun (W : World) (A' : Option Addr) (n' c' : Nat) (h : Sl W W.heap.size 3 A' ((zEs z).map I.Ed.row)) (en : n' = (zEs z).length) => I.rshort_walk z.per (z.b0 && !z.k0) (z.b1 && !z.k1) (z.b2 && !z.k2) (z.b3 && !z.k3) (z.b4 && !z.k4) (z.b5 && !z.k5) A' n' c' (zEs z) W h en (by omega) hck
  have ho : [z.b0 && !z.k0, z.b1 && !z.k1, z.b2 && !z.k2, z.b3 && !z.k3, z.b4 && !z.k4, z.b5 && !z.k5] = zOn z := rfl
  simp only [ho, hs] at k4
  have K4 := hide k4
  clear k2 k3 k4 hl hck hm hz ho hs hk h3 ey eg gm
  have HB := Below.refl w.heap.size w
  obtain ⟨w1, eW1, sW1, rs, hb⟩ := box w #[.int .i64 s.fd, .int .i64 s.fq, .int .i64 s.v, .bool s.b, .int .i64 s.po, .int .i64 s.sp, .slice YA 3 yc, .int .i64 s.tn] 47 (g := w.heap.size) rfl HB (by have := HB.size; omega)
  have Qrs : Hid (w.heap.size ≤ w.heap.size) := Lib.hid (by have := HB.size; omega)
  replace HB := hb
  clear hb
  obtain ⟨w2, eW2, sW2, ri, hb⟩ := box w1 #[.int .i64 z.per, .bool z.b0, .bool z.b1, .bool z.b2, .bool z.b3, .bool z.b4, .bool z.b5, .slice GA gn gc, .int .i64 z.ld, .int .i64 z.amb, .bool z.k0, .bool z.k1, .bool z.k2, .bool z.k3, .bool z.k4, .bool z.k5, .bool z.de, .bool z.nb] 53 (g := w.heap.size + 1) sW1 HB (by have := HB.size; omega)
  have Qri : Hid (w.heap.size ≤ w.heap.size + 1 ∧ w.heap.size < w.heap.size + 1) := Lib.hid ⟨by have := HB.size; omega, by have := rs.lt; omega⟩
  replace rs := rs.al eW2
  replace HB := hb
  clear hb
  go_enter Tryz.func15, Tryz.ntmps15
  have rsc6 := rs.cell 6
  have ric0 := ri.cell 0
  have ric1 := ri.cell 1
  have ric2 := ri.cell 2
  have ric3 := ri.cell 3
  have ric4 := ri.cell 4
  have ric5 := ri.cell 5
  have ric6 := ri.cell 6
  have ric7 := ri.cell 7
  go_wp2_with fail
  with_reducible refine ((unhide K2) _ ((SG.below HB).more HB.size)).mono ?_
  rintro e w3 ⟨rfl, hb⟩
  replace rs := rs.below hb rs.lt
  replace ri := ri.below hb ri.lt
  replace HB := HB.trans (hb.mono HB.size)
  clear hb
  clear rsc6 ric0 ric1 ric2 ric3 ric4 ric5 ric6 ric7 eW1 sW1 eW2 sW2
  have ric0 := ri.cell 0
  have ric1 := ri.cell 1
  have ric2 := ri.cell 2
  have ric3 := ri.cell 3
  have ric4 := ri.cell 4
  have ric5 := ri.cell 5
  have ric6 := ri.cell 6
  have ric7 := ri.cell 7
  have ric10 := ri.cell 10
  have ric11 := ri.cell 11
  have ric12 := ri.cell 12
  have ric13 := ri.cell 13
  have ric14 := ri.cell 14
  have ric15 := ri.cell 15
  go_wp2_with fail
  with_reducible refine ((unhide K3) _ ((SG.below HB).more HB.size)).mono ?_
  rintro e w4 ⟨⟨A', n', c', rfl, en, SB⟩, hb⟩
  replace rs := rs.below hb rs.lt
  replace ri := ri.below hb ri.lt
  replace HB := HB.trans (hb.mono HB.size)
  clear hb
  clear ric0 ric1 ric2 ric3 ric4 ric5 ric6 ric7 ric10 ric11 ric12 ric13 ric14 ric15
  have EN := Lib.hid en
  clear en
  go_wp2_with fail
  with_reducible refine ((unhide K4) _ A' n' c' SB EN.out).mono ?_
  rintro e w5 ⟨rfl, hb⟩
  replace rs := rs.below hb rs.lt
  replace ri := ri.below hb ri.lt
  replace HB := HB.trans (hb.mono HB.size)
  clear hb
  go_wp2
  go_ret
  exact ⟨rfl, HB⟩
set_option maxRecDepth 100000 in
set_option maxHeartbeats 3200000 in
theorem rinP_4 (s : Ps) (YA : Option Addr) (yn yc : Nat) (z : Pi) (GA : Option Addr) (gn gc : Nat) (w : World) (ey : yn = s.h.length) (SG : Sl w w.heap.size 3 GA (z.es.map I.Ed.row)) (eg : gn = z.es.length) (gm : gn ≤ 1000000) (h3 : s.h.length = 3) (hk : I.chk z.per z.es = 0) (hs : I.shrt z.per (zOn z) (zEs z) = false) :
    Calls Tryz.prog 15 #[.agg #[.int .i64 s.fd, .int .i64 s.fq, .int .i64 s.v, .bool s.b, .int .i64 s.po, .int .i64 s.sp, .slice YA yn yc, .int .i64 s.tn], .agg #[.int .i64 z.per, .bool z.b0, .bool z.b1, .bool z.b2, .bool z.b3, .bool z.b4, .bool z.b5, .slice GA gn gc, .int .i64 z.ld, .int .i64 z.amb, .bool z.k0, .bool z.k1, .bool z.k2, .bool z.k3, .bool z.k4, .bool z.k5, .bool z.de, .bool z.nb]] w fun e w' => e = .returned (.int .i64 0) ∧ Below w.heap.size w w' := by
  obtain rfl : yn = 3 := by omega
  have k2 := fun (W : World) (h : Sl W W.heap.size 3 GA (z.es.map I.Ed.row)) => I.rchk_walk z.per z.b0 z.b1 z.b2 z.b3 z.b4 z.b5 GA gn gc z.es W h eg gm
  simp only [hk] at k2
  have K2 := hide k2
  have k3 := fun (W : World) (h : Sl W W.heap.size 3 GA (z.es.map I.Ed.row)) => (I.rbreak_walk z.per z.b0 z.b1 z.b2 z.b3 z.b4 z.b5 z.k0 z.k1 z.k2 z.k3 z.k4 z.k5 GA gn gc z.es W h eg gm).mono fun _ _ q => grp3' q
  have hz : I.brk [z.k0, z.k1, z.k2, z.k3, z.k4, z.k5] z.es = zEs z := rfl
  simp only [hz] at k3
  have K3 := hide k3
  have hl := I.brk_length [z.k0, z.k1, z.k2, z.k3, z.k4, z.k5] z.es
  have hck := I.brk_chk [z.k0, z.k1, z.k2, z.k3, z.k4, z.k5] hk
  have hm : (zEs z).length ≤ 1000000 := by unfold zEs; omega
  rw [hz] at hck
  rw [I.shrt_ok hck] at hs
  have k4 := fun (W : World) (A' : Option Addr) (n' c' : Nat) (h : Sl W W.heap.size 3 A' ((zEs z).map I.Ed.row)) (en : n' = (zEs z).length) => I.rshort_walk z.per (z.b0 && !z.k0) (z.b1 && !z.k1) (z.b2 && !z.k2) (z.b3 && !z.k3) (z.b4 && !z.k4) (z.b5 && !z.k5) A' n' c' (zEs z) W h en (by omega) hck
  have ho : [z.b0 && !z.k0, z.b1 && !z.k1, z.b2 && !z.k2, z.b3 && !z.k3, z.b4 && !z.k4, z.b5 && !z.k5] = zOn z := rfl
  simp only [ho, hs] at k4
  have K4 := hide k4
  clear k2 k3 k4 hl hck hm hz ho hs hk h3 ey eg gm
  have HB := Below.refl w.heap.size w
  obtain ⟨w1, eW1, sW1, rs, hb⟩ := box w #[.int .i64 s.fd, .int .i64 s.fq, .int .i64 s.v, .bool s.b, .int .i64 s.po, .int .i64 s.sp, .slice YA 3 yc, .int .i64 s.tn] 47 (g := w.heap.size) rfl HB (by have := HB.size; omega)
  have Qrs : Hid (w.heap.size ≤ w.heap.size) := Lib.hid (by have := HB.size; omega)
  replace HB := hb
  clear hb
  obtain ⟨w2, eW2, sW2, ri, hb⟩ := box w1 #[.int .i64 z.per, .bool z.b0, .bool z.b1, .bool z.b2, .bool z.b3, .bool z.b4, .bool z.b5, .slice GA gn gc, .int .i64 z.ld, .int .i64 z.amb, .bool z.k0, .bool z.k1, .bool z.k2, .bool z.k3, .bool z.k4, .bool z.k5, .bool z.de, .bool z.nb] 53 (g := w.heap.size + 1) sW1 HB (by have := HB.size; omega)
  have Qri : Hid (w.heap.size ≤ w.heap.size + 1 ∧ w.heap.size < w.heap.size + 1) := Lib.hid ⟨by have := HB.size; omega, by have := rs.lt; omega⟩
  replace rs := rs.al eW2
  replace HB := hb
  clear hb
  go_enter Tryz.func15, Tryz.ntmps15
  have rsc6 := rs.cell 6
  have ric0 := ri.cell 0
  have ric1 := ri.cell 1
  have ric2 := ri.cell 2
  have ric3 := ri.cell 3
  have ric4 := ri.cell 4
  have ric5 := ri.cell 5
  have ric6 := ri.cell 6
  have ric7 := ri.cell 7
  go_wp2_with fail
  with_reducible refine ((unhide K2) _ ((SG.below HB).more HB.size)).mono ?_
  rintro e w3 ⟨rfl, hb⟩
  replace rs := rs.below hb rs.lt
  replace ri := ri.below hb ri.lt
  replace HB := HB.trans (hb.mono HB.size)
  clear hb
  clear rsc6 ric0 ric1 ric2 ric3 ric4 ric5 ric6 ric7 eW1 sW1 eW2 sW2
  have ric0 := ri.cell 0
  have ric1 := ri.cell 1
  have ric2 := ri.cell 2
  have ric3 := ri.cell 3
  have ric4 := ri.cell 4
  have ric5 := ri.cell 5
  have ric6 := ri.cell 6
  have ric7 := ri.cell 7
  have ric10 := ri.cell 10
  have ric11 := ri.cell 11
  have ric12 := ri.cell 12
  have ric13 := ri.cell 13
  have ric14 := ri.cell 14
  have ric15 := ri.cell 15
  go_wp2_with fail
  with_reducible refine ((unhide K3) _ ((SG.below HB).more HB.size)).mono ?_
  rintro e w4 ⟨⟨A', n', c', rfl, en, SB⟩, hb⟩
  replace rs := rs.below hb rs.lt
  replace ri := ri.below hb ri.lt
  replace HB := HB.trans (hb.mono HB.size)
  clear hb
  clear ric0 ric1 ric2 ric3 ric4 ric5 ric6 ric7 ric10 ric11 ric12 ric13 ric14 ric15
  have EN := Lib.hid en
  clear en
  go_wp2_with fail
  with_reducible refine ((unhide K4) _ A' n' c' SB EN.out).mono ?_
  rintro e w5 ⟨rfl, hb⟩
  replace rs := rs.below hb rs.lt
  replace ri := ri.below hb ri.lt
  replace HB := HB.trans (hb.mono HB.size)
  clear hb
  go_wp2
  go_ret
  exact ⟨rfl, HB⟩
theorem rinP (s : Ps) (YA : Option Addr) (yn yc : Nat) (z : Pi) (GA : Option Addr) (gn gc : Nat) (w : World) (ey : yn = s.h.length) (SG : Sl w w.heap.size 3 GA (z.es.map I.Ed.row)) (eg : gn = z.es.length) (gm : gn ≤ 1000000) :
    Calls Tryz.prog 15 #[.agg #[.int .i64 s.fd, .int .i64 s.fq, .int .i64 s.v, .bool s.b, .int .i64 s.po, .int .i64 s.sp, .slice YA yn yc, .int .i64 s.tn], .agg #[.int .i64 z.per, .bool z.b0, .bool z.b1, .bool z.b2, .bool z.b3, .bool z.b4, .bool z.b5, .slice GA gn gc, .int .i64 z.ld, .int .i64 z.amb, .bool z.k0, .bool z.k1, .bool z.k2, .bool z.k3, .bool z.k4, .bool z.k5, .bool z.de, .bool z.nb]] w fun e w' => e = .returned (.int .i64 (inCode s z)) ∧ Below w.heap.size w w' := by
  unfold inCode
  by_cases h1 : s.h.length = 3
  case neg => rw [if_pos h1]; exact rinP_1 s YA yn yc z GA gn gc w ey h1
  rw [if_neg (by omega)]
  by_cases h2 : I.chk z.per z.es = 0
  case neg => rw [if_pos h2]; exact rinP_2 s YA yn yc z GA gn gc w ey SG eg gm h1 h2
  rw [if_neg (by omega)]
  rcases Bool.eq_false_or_eq_true (I.shrt z.per (zOn z) (zEs z)) with h3 | h3
  · rw [if_pos h3]; exact rinP_3 s YA yn yc z GA gn gc w ey SG eg gm h1 h2 h3
  · rw [if_neg (by rw [h3]; decide)]; exact rinP_4 s YA yn yc z GA gn gc w ey SG eg gm h1 h2 h3
theorem clip_mm (v : Int) : max 0 (min v 1048576) = clipI v 0 1048576 := by unfold clipI; split <;> (try split) <;> omega
set_option maxRecDepth 100000 in
set_option maxHeartbeats 6400000 in
theorem routP (P : Pc) (X : Pa) (s : Ps) (YA : Option Addr) (yn yc : Nat) (w : World) (L : Py w w.heap.size P X) (SY : Sl w w.heap.size 1 YA (rows s.h)) (ey : yn = s.h.length) (hc : plCode P = 0) (h3 : s.h.length = 3) (hX : ∀ k, k < 3 → -9223372036854775808 ≤ g s.h k ∧ g s.h k ≤ 9223372036854775807) :
    Calls Tryz.prog 19 #[.agg #[.int .i64 P.m.r, .int .i64 P.m.m, .slice X.A1 X.n1 X.c1, .slice X.A2 X.n2 X.c2, .slice X.A3 X.n3 X.c3, .slice X.A4 X.n4 X.c4, .int .i64 P.m.p, .int .i64 P.m.s, .int .i64 P.m.f, .int .i64 P.l.num, .int .i64 P.l.den, .int .i64 P.l.sup, .int .i64 P.l.fed, .int .i64 P.l.ohm, .int .i64 P.l.bon, .int .i64 P.l.boff, .int .i64 P.l.bohm, .int .i64 P.g, .int .i64 P.d, .int .i64 P.y, .slice X.B1 X.m1 X.d1, .slice X.B2 X.m2 X.d2, .slice X.B3 X.m3 X.d3, .int .i64 P.wi, .int .i64 P.sw], .agg #[.int .i64 s.fd, .int .i64 s.fq, .int .i64 s.v, .bool s.b, .int .i64 s.po, .int .i64 s.sp, .slice YA yn yc, .int .i64 s.tn]] w fun e w' => (∃ A u, e = .returned (.agg #[.int .i64 (cuA P s), .int .i64 (cuB P s), .int .i64 (cuC P s), .int .i64 (clipI s.v 0 1048576), .int .i64 (angP s.po), .int .i64 (wrapP s.po), .int .i64 (clipI s.sp (-1073741824) 1073741824), .int .i64 (torq P.m s.fd s.fq), .slice A 3 u]) ∧ Sl w' w'.heap.size 1 A (rows (cels s.h 3))) ∧ Below w.heap.size w w' := by
  have ok := pl_ok hc
  obtain rfl : yn = 3 := by omega
  have k1 := fun (W : World) => angleR s.po s.sp W
  have k2 : ∀ (W : World) (h : Py W W.heap.size P X), Calls Tryz.prog 52 #[.agg #[.int .i64 P.m.r, .int .i64 P.m.m, .slice X.A1 X.n1 X.c1, .slice X.A2 X.n2 X.c2, .slice X.A3 X.n3 X.c3, .slice X.A4 X.n4 X.c4, .int .i64 P.m.p, .int .i64 P.m.s, .int .i64 P.m.f], .agg #[.int .i64 s.fd, .int .i64 s.fq], .int .i64 (angP s.po)] W fun e w' => e = .returned (.agg #[.int .i64 (cuA P s), .int .i64 (cuB P s), .int .i64 (cuC P s)]) ∧ Below W.heap.size W w' := fun W h => gphaR P X s.fd s.fq (angP s.po) W h ok.m
  have k3 := fun (W : World) => wrapRQ s.po W
  have k4 := fun (W : World) => speedFR s.po s.sp W
  have k5 := fun (W : World) (h : Py W W.heap.size P X) => gtorR P X s.fd s.fq W h ok.m
  have k6 := fun (W : World) (h : Sl W W.heap.size 1 YA (rows s.h)) => celR s.h YA 3 yc W h ey (by omega) hX
  rw [← clip_mm]
  obtain ⟨a, ha⟩ : ∃ x, cuA P s = x := ⟨_, rfl⟩
  obtain ⟨b, hb'⟩ : ∃ x, cuB P s = x := ⟨_, rfl⟩
  obtain ⟨c, hc'⟩ : ∃ x, cuC P s = x := ⟨_, rfl⟩
  obtain ⟨T, hT⟩ : ∃ x, angP s.po = x := ⟨_, rfl⟩
  obtain ⟨WP, hWP⟩ : ∃ x, wrapP s.po = x := ⟨_, rfl⟩
  obtain ⟨CS, hCS⟩ : ∃ x, clipI s.sp (-1073741824) 1073741824 = x := ⟨_, rfl⟩
  obtain ⟨TQ, hTQ⟩ : ∃ x, torq P.m s.fd s.fq = x := ⟨_, rfl⟩
  simp only [hT] at k1 k2 ⊢
  simp only [ha, hb', hc'] at k2 ⊢
  simp only [hWP] at k3 ⊢
  simp only [hCS] at k4 ⊢
  simp only [hTQ] at k5 ⊢
  obtain ⟨CE, hCE⟩ : ∃ x, cels s.h 3 = x := ⟨_, rfl⟩
  simp only [hCE] at k6 ⊢
  have K1 := hide k1
  have K2 := hide k2
  have K3 := hide k3
  have K4 := hide k4
  have K5 := hide k5
  have K6 := hide k6
  clear k1 k2 k3 k4 k5 k6 ok hc h3 hX ha hb' hc' hT hWP hCS hTQ hCE ey
  have HB := Below.refl w.heap.size w
  obtain ⟨w1, eW1, sW1, rc, hb⟩ := box w #[.int .i64 P.m.r, .int .i64 P.m.m, .slice X.A1 X.n1 X.c1, .slice X.A2 X.n2 X.c2, .slice X.A3 X.n3 X.c3, .slice X.A4 X.n4 X.c4, .int .i64 P.m.p, .int .i64 P.m.s, .int .i64 P.m.f, .int .i64 P.l.num, .int .i64 P.l.den, .int .i64 P.l.sup, .int .i64 P.l.fed, .int .i64 P.l.ohm, .int .i64 P.l.bon, .int .i64 P.l.boff, .int .i64 P.l.bohm, .int .i64 P.g, .int .i64 P.d, .int .i64 P.y, .slice X.B1 X.m1 X.d1, .slice X.B2 X.m2 X.d2, .slice X.B3 X.m3 X.d3, .int .i64 P.wi, .int .i64 P.sw] 35 (g := w.heap.size) rfl HB (by have := HB.size; omega)
  have Qrc : Hid (w.heap.size ≤ w.heap.size) := Lib.hid (by have := HB.size; omega)
  replace HB := hb
  clear hb
  obtain ⟨w2, eW2, sW2, rs, hb⟩ := box w1 #[.int .i64 s.fd, .int .i64 s.fq, .int .i64 s.v, .bool s.b, .int .i64 s.po, .int .i64 s.sp, .slice YA 3 yc, .int .i64 s.tn] 47 (g := w.heap.size + 1) sW1 HB (by have := HB.size; omega)
  have Qrs : Hid (w.heap.size ≤ w.heap.size + 1 ∧ w.heap.size < w.heap.size + 1) := Lib.hid ⟨by have := HB.size; omega, by have := rc.lt; omega⟩
  replace rc := rc.al eW2
  replace HB := hb
  clear hb
  obtain ⟨w3, eW3, sW3, gz, hb⟩ := box w2 #[.int .i64 0, .int .i64 0, .int .i64 0, .int .i64 0, .int .i64 0, .int .i64 0, .int .i64 0, .int .i64 0, .slice none 0 0] 69 (g := w.heap.size + 1 + 1) sW2 HB (by have := HB.size; omega)
  have Qgz : Hid (w.heap.size ≤ w.heap.size + 1 + 1 ∧ w.heap.size < w.heap.size + 1 + 1 ∧ w.heap.size + 1 < w.heap.size + 1 + 1) := Lib.hid ⟨by have := HB.size; omega, by have := rc.lt; omega, by have := rs.lt; omega⟩
  replace rc := rc.al eW3
  replace rs := rs.al eW3
  replace HB := hb
  clear hb
  go_enter Tryz.func19, Tryz.ntmps19
  have rsc4 := rs.cell 4
  have rsc5 := rs.cell 5
  go_wp2_with fail
  with_reducible refine ((unhide K1) _).mono ?_
  rintro e w4 ⟨rfl, hb⟩
  replace rc := rc.below hb rc.lt
  replace rs := rs.below hb rs.lt
  replace gz := gz.below hb gz.lt
  replace HB := HB.trans (hb.mono HB.size)
  clear hb
  clear rsc4 rsc5 eW1 sW1 eW2 sW2 eW3 sW3
  go_wp2_with fail
  have HGZ : Hid (w.heap.size + 1 + 1 < w4.heap.size) := Lib.hid gz.lt
  obtain ⟨w5, hw, sw⟩ := drewX w4
  replace rc : Blk w5 (w.heap.size) 35 #[.int .i64 P.m.r, .int .i64 P.m.m, .slice X.A1 X.n1 X.c1, .slice X.A2 X.n2 X.c2, .slice X.A3 X.n3 X.c3, .slice X.A4 X.n4 X.c4, .int .i64 P.m.p, .int .i64 P.m.s, .int .i64 P.m.f, .int .i64 P.l.num, .int .i64 P.l.den, .int .i64 P.l.sup, .int .i64 P.l.fed, .int .i64 P.l.ohm, .int .i64 P.l.bon, .int .i64 P.l.boff, .int .i64 P.l.bohm, .int .i64 P.g, .int .i64 P.d, .int .i64 P.y, .slice X.B1 X.m1 X.d1, .slice X.B2 X.m2 X.d2, .slice X.B3 X.m3 X.d3, .int .i64 P.wi, .int .i64 P.sw] := hw ▸ rc.drew
  have zrc := rc.lt
  replace rs : Blk w5 (w.heap.size + 1) 47 #[.int .i64 s.fd, .int .i64 s.fq, .int .i64 s.v, .bool s.b, .int .i64 s.po, .int .i64 s.sp, .slice YA 3 yc, .int .i64 s.tn] := hw ▸ rs.drew
  have zrs := rs.lt
  replace gz : Blk w5 (w.heap.size + 1 + 1) 69 #[.int .i64 0, .int .i64 0, .int .i64 0, .int .i64 0, .int .i64 0, .int .i64 0, .int .i64 0, .int .i64 0, .slice none 0 0] := hw ▸ gz.drew
  have zgz := gz.lt
  replace HB : Below w.heap.size w w5 := hw ▸ HB.drew
  refine wp_region_multi (fun i => [5, 18, 23, 26, 28].contains i) (fun i => [5, 18, 23, 26].contains i) w5.heap.size (by kernel_rfl) ?_
  change wpX _ _ _ _ _ _ _ _ _ _ w4.drew
  rw [hw]
  clear hw sw
  have HR := Below.refl w5.heap.size w5
  apply wpX_take (i := 0) rfl rfl (by kernel_rfl) (fun _ _ _ h => h)
  · intro w' hb
    unfold yv
    go_simp
    simp only [yvUpon]
    exact ⟨trivial, rfl⟩
  · go_simp
    exact rfl
  apply wpX_take (i := 1) rfl rfl (by kernel_rfl) (fun _ _ _ h => h)
  · intro w' hb
    have yrc0 := (rc.below hb zrc).cell 0
    have yrc1 := (rc.below hb zrc).cell 1
    have yrc2 := (rc.below hb zrc).cell 2
    have yrc3 := (rc.below hb zrc).cell 3
    have yrc4 := (rc.below hb zrc).cell 4
    have yrc5 := (rc.below hb zrc).cell 5
    have yrc6 := (rc.below hb zrc).cell 6
    have yrc7 := (rc.below hb zrc).cell 7
    have yrc8 := (rc.below hb zrc).cell 8
    unfold yv
    go_simp
    simp only [yvUpon]
    exact ⟨trivial, rfl⟩
  · go_simp
    exact rfl
  apply wpX_take (i := 2) rfl rfl (by kernel_rfl) (fun _ _ _ h => h)
  · intro w' hb
    unfold yv
    go_simp
    simp only [yvUpon]
    exact ⟨trivial, rfl⟩
  · go_simp
    exact rfl
  apply wpX_take (i := 3) rfl rfl (by kernel_rfl) (fun _ _ _ h => h)
  · intro w' hb
    have yrs0 := (rs.below hb zrs).cell 0
    have yrs1 := (rs.below hb zrs).cell 1
    unfold yv
    go_simp
    simp only [yvUpon]
    exact ⟨trivial, rfl⟩
  · go_simp
    exact rfl
  apply wpX_take (i := 4) rfl rfl (by kernel_rfl) (fun _ _ _ h => h)
  · intro w' hb
    unfold yv
    go_simp
    simp only [yvUpon]
    exact ⟨trivial, rfl⟩
  · go_simp
    exact rfl
  apply wpX_take (i := 6) rfl rfl (by kernel_rfl) (fun _ _ _ h => h)
  · intro w' hb
    unfold yv
    go_simp
    simp only [yvUpon]
    exact ⟨trivial, rfl⟩
  · go_simp
    exact rfl
  apply wpX_take (i := 7) rfl rfl (by kernel_rfl) (fun _ _ _ h => h)
  · intro w' hb
    unfold yv
    go_simp
    simp only [yvUpon]
    exact ⟨trivial, rfl⟩
  · go_simp
    exact rfl
  apply wpX_take (i := 8) rfl rfl (by kernel_rfl) (fun _ _ _ h => h)
  · intro w' hb
    have yrs2 := (rs.below hb zrs).cell 2
    unfold yv
    go_simp
    simp only [yvUpon]
    exact ⟨trivial, rfl⟩
  · go_simp
    exact rfl
  apply wpX_take (i := 9) rfl rfl (by kernel_rfl) (fun _ _ _ h => h)
  · intro w' hb
    unfold yv
    go_simp
    simp only [yvUpon]
    exact ⟨trivial, rfl⟩
  · go_simp
    exact rfl
  apply wpX_take (i := 10) rfl rfl (by kernel_rfl) (fun _ _ _ h => h)
  · intro w' hb
    unfold yv
    go_simp
    simp only [yvUpon]
    exact ⟨trivial, rfl⟩
  · go_simp
    exact rfl
  apply wpX_take (i := 11) rfl rfl (by kernel_rfl) (fun _ _ _ h => h)
  · intro w' hb
    unfold yv
    go_simp
    simp only [yvUpon]
    exact ⟨trivial, rfl⟩
  · go_simp
    exact rfl
  apply wpX_take (i := 12) rfl rfl (by kernel_rfl) (fun _ _ _ h => h)
  · intro w' hb
    unfold yv
    go_simp
    simp only [yvUpon]
    exact ⟨trivial, rfl⟩
  · go_simp
    exact rfl
  apply wpX_take (i := 13) rfl rfl (by kernel_rfl) (fun _ _ _ h => h)
  · intro w' hb
    unfold yv
    go_simp
    simp only [yvUpon]
    exact ⟨trivial, rfl⟩
  · go_simp
    exact rfl
  apply wpX_take (i := 14) rfl rfl (by kernel_rfl) (fun _ _ _ h => h)
  · intro w' hb
    have yrs4 := (rs.below hb zrs).cell 4
    unfold yv
    go_simp
    simp only [yvUpon]
    exact ⟨trivial, rfl⟩
  · go_simp
    exact rfl
  apply wpX_take (i := 16) rfl rfl (by kernel_rfl) (fun _ _ _ h => h)
  · intro w' hb
    unfold yv
    go_simp
    simp only [yvUpon]
    exact ⟨trivial, rfl⟩
  · go_simp
    exact rfl
  apply wpX_take (i := 17) rfl rfl (by kernel_rfl) (fun _ _ _ h => h)
  · intro w' hb
    have yrs4 := (rs.below hb zrs).cell 4
    have yrs5 := (rs.below hb zrs).cell 5
    unfold yv
    go_simp
    simp only [yvUpon]
    exact ⟨trivial, rfl⟩
  · go_simp
    exact rfl
  apply wpX_take (i := 19) rfl rfl (by kernel_rfl) (fun _ _ _ h => h)
  · intro w' hb
    unfold yv
    go_simp
    simp only [yvUpon]
    exact ⟨trivial, rfl⟩
  · go_simp
    exact rfl
  apply wpX_take (i := 20) rfl rfl (by kernel_rfl) (fun _ _ _ h => h)
  · intro w' hb
    have yrc0 := (rc.below hb zrc).cell 0
    have yrc1 := (rc.below hb zrc).cell 1
    have yrc2 := (rc.below hb zrc).cell 2
    have yrc3 := (rc.below hb zrc).cell 3
    have yrc4 := (rc.below hb zrc).cell 4
    have yrc5 := (rc.below hb zrc).cell 5
    have yrc6 := (rc.below hb zrc).cell 6
    have yrc7 := (rc.below hb zrc).cell 7
    have yrc8 := (rc.below hb zrc).cell 8
    unfold yv
    go_simp
    simp only [yvUpon]
    exact ⟨trivial, rfl⟩
  · go_simp
    exact rfl
  apply wpX_take (i := 21) rfl rfl (by kernel_rfl) (fun _ _ _ h => h)
  · intro w' hb
    unfold yv
    go_simp
    simp only [yvUpon]
    exact ⟨trivial, rfl⟩
  · go_simp
    exact rfl
  apply wpX_take (i := 22) rfl rfl (by kernel_rfl) (fun _ _ _ h => h)
  · intro w' hb
    have yrs0 := (rs.below hb zrs).cell 0
    have yrs1 := (rs.below hb zrs).cell 1
    unfold yv
    go_simp
    simp only [yvUpon]
    exact ⟨trivial, rfl⟩
  · go_simp
    exact rfl
  apply wpX_take (i := 24) rfl rfl (by kernel_rfl) (fun _ _ _ h => h)
  · intro w' hb
    unfold yv
    go_simp
    simp only [yvUpon]
    exact ⟨trivial, rfl⟩
  · go_simp
    exact rfl
  apply wpX_take (i := 25) rfl rfl (by kernel_rfl) (fun _ _ _ h => h)
  · intro w' hb
    have yrs6 := (rs.below hb zrs).cell 6
    unfold yv
    go_simp
    simp only [yvUpon]
    exact ⟨trivial, rfl⟩
  · go_simp
    exact rfl
  apply wpX_one (i := 5) rfl rfl (by kernel_rfl)
  unfold mild
  go_simp
  simp only [mildUpon]
  refine ⟨trivial, ?_⟩
  with_reducible refine ((unhide K2) _ ((L.below HB).more HB.size)).mono ?_
  rintro e w6 ⟨rfl, hb⟩
  refine ⟨_, rfl, hb.mono HR.size, ?_⟩
  replace rc := rc.below hb rc.lt
  replace rs := rs.below hb rs.lt
  replace gz := gz.below hb gz.lt
  replace HB := HB.trans (hb.mono HB.size)
  replace HR := HR.trans (hb.mono HR.size)
  clear hb
  replace HGZ : Hid (w.heap.size + 1 + 1 < w6.heap.size) := Lib.hid gz.lt
  apply wpX_take (i := 15) rfl rfl (by kernel_rfl) (fun _ _ _ h => h)
  · intro w' hb
    unfold yv
    go_simp
    simp only [yvUpon]
    exact ⟨trivial, (unhide K3) w'⟩
  · go_simp
    exact rfl
  apply wpX_one (i := 18) rfl rfl (by kernel_rfl)
  unfold mild
  go_simp
  simp only [mildUpon]
  refine ⟨trivial, ?_⟩
  with_reducible refine ((unhide K4) _).mono ?_
  rintro e w7 ⟨rfl, hb⟩
  refine ⟨_, rfl, hb.mono HR.size, ?_⟩
  replace rc := rc.below hb rc.lt
  replace rs := rs.below hb rs.lt
  replace gz := gz.below hb gz.lt
  replace HB := HB.trans (hb.mono HB.size)
  replace HR := HR.trans (hb.mono HR.size)
  clear hb
  replace HGZ : Hid (w.heap.size + 1 + 1 < w7.heap.size) := Lib.hid gz.lt
  apply wpX_one (i := 23) rfl rfl (by kernel_rfl)
  unfold mild
  go_simp
  simp only [mildUpon]
  refine ⟨trivial, ?_⟩
  with_reducible refine ((unhide K5) _ ((L.below HB).more HB.size)).mono ?_
  rintro e w8 ⟨rfl, hb⟩
  refine ⟨_, rfl, hb.mono HR.size, ?_⟩
  replace rc := rc.below hb rc.lt
  replace rs := rs.below hb rs.lt
  replace gz := gz.below hb gz.lt
  replace HB := HB.trans (hb.mono HB.size)
  replace HR := HR.trans (hb.mono HR.size)
  clear hb
  replace HGZ : Hid (w.heap.size + 1 + 1 < w8.heap.size) := Lib.hid gz.lt
  apply wpX_one (i := 26) rfl rfl (by kernel_rfl)
  unfold mild
  go_simp
  simp only [mildUpon]
  refine ⟨trivial, ?_⟩
  with_reducible refine ((unhide K6) _ ((SY.below HB).more HB.size)).mono ?_
  rintro e w9 ⟨⟨A, u, rfl, SA, fA⟩, hb⟩
  refine ⟨_, rfl, hb.mono HR.size, ?_⟩
  replace rc := rc.below hb rc.lt
  replace rs := rs.below hb rs.lt
  replace gz := gz.below hb gz.lt
  replace HB := HB.trans (hb.mono HB.size)
  replace HR := HR.trans (hb.mono HR.size)
  clear hb
  have FA : Hid (∀ ad : Addr, A = some ad → w.heap.size + 1 + 1 < ad.block) := Lib.hid fun ad h => by have := fA ad h; have := HGZ.out; omega
  clear fA
  apply wpX_take (i := 27) rfl rfl (by kernel_rfl) (fun _ _ _ h => h)
  · intro w' hb
    unfold yv
    go_simp
    simp only [yvUpon]
    exact ⟨trivial, rfl⟩
  · go_simp
    exact rfl
  refine wpX_rest (k := 28) (by kernel_rfl) ?_
  simp only [List.drop_succ_cons, List.drop_zero]
  have SA2 := SA
  have hgz := gz.lt
  have qrc := Qrc.out
  have qrs := Qrs.out
  have qgz := Qgz.out
  have gzo9 := gz
  obtain ⟨w10, eW10, sW10, hr, hb⟩ := rowX gz #[.int .i64 a, .int .i64 b, .int .i64 c, .int .i64 (max 0 (min s.v 1048576)), .int .i64 T, .int .i64 WP, .int .i64 CS, .int .i64 TQ, .slice A 3 u] (n := w9.heap.size) rfl HB (by omega)
  replace rc := rc.rowTo eW10 (by omega)
  replace rs := rs.rowTo eW10 (by omega)
  replace gz := hr
  replace HB := hb
  clear hb hr qrc qrs qgz
  go_wp2_with (first | (refine wpList_store_row rfl 69 _ _ rfl (w.heap.size + 1 + 1) #[.int .i64 a, .int .i64 b, .int .i64 c, .int .i64 (max 0 (min s.v 1048576)), .int .i64 T, .int .i64 WP, .int .i64 CS, .int .i64 TQ, .slice A 3 u] rfl rfl _ _ gzo9 (by kernel_rfl) (by kernel_rfl) (by kernel_rfl) ?_))
  try simp only [eW10]
  have hq := FA.out
  exact bodyPost_ret (ret_cell rfl rfl (load_po gz)) rfl ⟨⟨A, u, rfl, (SA2.rowTo eW10 (fun ad h => by have := hq ad h; omega)).more (by omega)⟩, HB⟩
end Go.Proofs.YtpfkiohknpeifaaGreat
