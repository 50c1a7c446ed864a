/- The walks of the reference's shaft. -/
import Derived.Test.YtpfkiohknpeifaaGreatPShaft3
import Derived.Test.YtpfkiohknpeifaaGreatMulti
import Derived.Test.YtpfkiohknpeifaaGreatRow
namespace Go.Proofs.YtpfkiohknpeifaaGreat
open Go.RowKit
set_option maxRecDepth 100000 in
theorem speedFR (p v : Int) (w : World) : Calls Tryz.prog 68 #[.agg #[.int .i64 p, .int .i64 v]] w fun e w' => e = .returned (.int .i64 (clipI v (-1073741824) 1073741824)) ∧ Below w.heap.size w w' := by
  have k1 := fun W => clipShR v (-1073741824) 1073741824 (by omega) W
  obtain ⟨V, hV⟩ : ∃ x, clipI v (-1073741824) 1073741824 = x := ⟨_, rfl⟩
  simp only [hV] at k1 ⊢
  have K1 := hide k1
  clear k1 hV
  have HB := Below.refl w.heap.size w
  obtain ⟨w1, eW1, sW1, rs, hb⟩ := box w #[.int .i64 p, .int .i64 v] 45 (g := w.heap.size) rfl HB (by have := HB.size; omega)
  have Qrs : Hid (w.heap.size ≤ w.heap.size) := Lib.hid (by have := HB.size; omega)
  replace HB := hb
  clear hb
  go_enter Tryz.func68, Tryz.ntmps68
  have rsc0 := rs.cell 0
  have rsc1 := rs.cell 1
  go_wp2_with (first | (go_at_call 120; (with_reducible refine ((unhide K1) _).mono ?_); rintro e w' ⟨rfl, rfl⟩))
  go_ret
  exact ⟨rfl, HB⟩
set_option maxRecDepth 100000 in
theorem netR (t l : Int) (w : World) : Calls Tryz.prog 116 #[.agg #[.int .i64 t, .int .i64 l]] w fun e w' => e = .returned (.int .i64 (netV t l)) ∧ Below w.heap.size w w' := by
  have k1 := fun W => qs (clipShR t (-16777216) 16777216 (by omega) W)
  have k2 := fun W => qs (clipShR l (-16777216) 16777216 (by omega) W)
  have b1 := clip_bd t (-16777216) 16777216 (by omega)
  have b2 := clip_bd l (-16777216) 16777216 (by omega)
  have hn : netV t l = clipI t (-16777216) 16777216 - clipI l (-16777216) 16777216 := rfl
  obtain ⟨A, hA⟩ : ∃ x, clipI t (-16777216) 16777216 = x := ⟨_, rfl⟩
  obtain ⟨B, hB⟩ : ∃ x, clipI l (-16777216) 16777216 = x := ⟨_, rfl⟩
  rw [hA] at b1 hn
  rw [hB] at b2 hn
  simp only [hA] at k1
  simp only [hB] at k2
  rw [hn]
  have e1 : wrap64 (A - B) = A - B := by unfold wrap64; omega
  have e2 : IntKind.i64.wrap (A - B) = A - B := IntWalk.i64_in _ (by omega)
  have K1 := hide k1
  have K2 := hide k2
  clear k1 k2 hA hB hn
  have HB := Below.refl w.heap.size w
  obtain ⟨w1, eW1, sW1, rx, hb⟩ := box w #[.int .i64 t, .int .i64 l] 110 (g := w.heap.size) rfl HB (by have := HB.size; omega)
  have Qrx : Hid (w.heap.size ≤ w.heap.size) := Lib.hid (by have := HB.size; omega)
  replace HB := hb
  clear hb
  go_enter Tryz.func116, Tryz.ntmps116
  have rxc0 := rx.cell 0
  have rxc1 := rx.cell 1
  go_wp2_with fail
  refine wp_region_mix 8 (by kernel_rfl) (by kernel_rfl) (fun _ _ _ _ _ h => h) ?_
  simp only [List.take_succ_cons, List.take_zero, List.drop_succ_cons, List.drop_zero]
  repeat still_step
  still_call ((unhide K1) _)
  repeat still_step
  still_call ((unhide K2) _)
  repeat still_step
  refine wpStill_nil ?_
  change wpList _ _ _ _ _ w1.drew
  obtain ⟨w2, hw⟩ : ∃ W, w1.drew = W := ⟨_, rfl⟩
  replace rx : Blk w2 (w.heap.size) 110 #[.int .i64 t, .int .i64 l] := hw ▸ rx.drew
  replace HB : Below w.heap.size w w2 := hw ▸ HB.drew
  simp only [hw]
  clear hw
  clear rxc0 rxc1 eW1 sW1
  go_wp2
  go_ret
  exact ⟨rfl, HB⟩
set_option maxRecDepth 100000 in
set_option maxHeartbeats 1600000 in
theorem sstepR (g d y p v t l : Int) (w : World) (hc : shCode g d y = 0) :
    Calls Tryz.prog 59 #[.agg #[.int .i64 g, .int .i64 d, .int .i64 y], .agg #[.int .i64 p, .int .i64 v], .agg #[.int .i64 t, .int .i64 l]] w fun e w' => e = .returned (.agg #[.int .i64 (npV g d y p v t l), .int .i64 (nvV g d y v t l)]) ∧ Below w.heap.size w w' := by
  obtain ⟨bg, bd, by1, by2⟩ := sh_ok hc
  have b3 := clip_bd v (-1073741824) 1073741824 (by omega)
  have bn := netV_bd t l
  have hv : nvV g d y v t l = spdV g d y (clipI v (-1073741824) 1073741824) (netV t l) := rfl
  have hp : npV g d y p v t l = wrapP (p + nvV g d y v t l) := rfl
  have k1 := fun W => speedFR p v W
  have k2 := fun W => netR t l W
  have k3 := fun W => speedR g d y (clipI v (-1073741824) 1073741824) (netV t l) W bg bd ⟨by1, by2⟩ b3 bn
  simp only [← hv] at k3
  have bv := spdV_bd g d y (clipI v (-1073741824) 1073741824) (netV t l)
  rw [← hv] at bv
  obtain ⟨V, hV⟩ : ∃ x, clipI v (-1073741824) 1073741824 = x := ⟨_, rfl⟩
  obtain ⟨N, hN⟩ : ∃ x, netV t l = x := ⟨_, rfl⟩
  obtain ⟨U, hU⟩ : ∃ x, nvV g d y v t l = x := ⟨_, rfl⟩
  simp only [hV] at k1 k3
  simp only [hN] at k2 k3
  simp only [hU] at k3 ⊢
  rw [hU] at bv hp
  have k4 := fun W => wrapR p W
  have bw := wrapP_bd p
  have k5 := fun W => wrapR (wrapP p + U) W
  have e1 : wrapP (wrapP p + U) = wrapP (p + U) := by unfold wrapP; omega
  simp only [e1, ← hp] at k5
  obtain ⟨Q, hQ⟩ : ∃ x, npV g d y p v t l = x := ⟨_, rfl⟩
  simp only [hQ] at k5 ⊢
  obtain ⟨Z, hZ⟩ : ∃ x, wrapP p = x := ⟨_, rfl⟩
  rw [hZ] at bw
  simp only [hZ] at k4 k5
  have e2 : wrap64 (Z + U) = Z + U := by unfold wrap64; omega
  have K1 := hide k1
  have K2 := hide k2
  have K3 := hide k3
  have K4 := hide k4
  have K5 := hide k5
  clear k1 k2 k3 k4 k5 hv hp hV hN hU hQ hZ e1 hc
  have HB := Below.refl w.heap.size w
  obtain ⟨w1, eW1, sW1, rc, hb⟩ := box w #[.int .i64 g, .int .i64 d, .int .i64 y] 30 (g := w.heap.size) rfl HB (by have := HB.size; omega)
  have Qrc : Hid (w.heap.size ≤ w.heap.size) := Lib.hid (by have := HB.size; omega)
  replace HB := hb
  clear hb
  obtain ⟨w2, eW2, sW2, rs, hb⟩ := box w1 #[.int .i64 p, .int .i64 v] 45 (g := w.heap.size + 1) sW1 HB (by have := HB.size; omega)
  have Qrs : Hid (w.heap.size ≤ w.heap.size + 1 ∧ w.heap.size < w.heap.size + 1) := Lib.hid ⟨by have := HB.size; omega, by have := rc.lt; omega⟩
  replace rc := rc.al eW2
  replace HB := hb
  clear hb
  obtain ⟨w3, eW3, sW3, rx, hb⟩ := box w2 #[.int .i64 t, .int .i64 l] 110 (g := w.heap.size + 1 + 1) sW2 HB (by have := HB.size; omega)
  have Qrx : Hid (w.heap.size ≤ w.heap.size + 1 + 1 ∧ w.heap.size < w.heap.size + 1 + 1 ∧ w.heap.size + 1 < w.heap.size + 1 + 1) := Lib.hid ⟨by have := HB.size; omega, by have := rc.lt; omega, by have := rs.lt; omega⟩
  replace rc := rc.al eW3
  replace rs := rs.al eW3
  replace HB := hb
  clear hb
  obtain ⟨w4, eW4, sW4, rz, hb⟩ := box w3 #[.int .i64 0, .int .i64 0] 45 (g := w.heap.size + 1 + 1 + 1) sW3 HB (by have := HB.size; omega)
  have Qrz : Hid (w.heap.size ≤ w.heap.size + 1 + 1 + 1 ∧ w.heap.size < w.heap.size + 1 + 1 + 1 ∧ w.heap.size + 1 < w.heap.size + 1 + 1 + 1 ∧ w.heap.size + 1 + 1 < w.heap.size + 1 + 1 + 1) := Lib.hid ⟨by have := HB.size; omega, by have := rc.lt; omega, by have := rs.lt; omega, by have := rx.lt; omega⟩
  replace rc := rc.al eW4
  replace rs := rs.al eW4
  replace rx := rx.al eW4
  replace HB := hb
  clear hb
  go_enter Tryz.func59, Tryz.ntmps59
  go_wp2_with fail
  obtain ⟨w5, hw, sw⟩ := drewX w4
  replace rc : Blk w5 (w.heap.size) 30 #[.int .i64 g, .int .i64 d, .int .i64 y] := hw ▸ rc.drew
  have zrc := rc.lt
  replace rs : Blk w5 (w.heap.size + 1) 45 #[.int .i64 p, .int .i64 v] := hw ▸ rs.drew
  have zrs := rs.lt
  replace rx : Blk w5 (w.heap.size + 1 + 1) 110 #[.int .i64 t, .int .i64 l] := hw ▸ rx.drew
  have zrx := rx.lt
  replace rz : Blk w5 (w.heap.size + 1 + 1 + 1) 45 #[.int .i64 0, .int .i64 0] := hw ▸ rz.drew
  have zrz := rz.lt
  replace HB : Below w.heap.size w w5 := hw ▸ HB.drew
  refine wp_region_multi (fun i => [2, 4, 5, 6].contains i) (fun i => [2, 4, 5].contains i) w5.heap.size (by kernel_rfl) ?_
  change wpX _ _ _ _ _ _ _ _ _ _ w4.drew
  rw [hw]
  clear hw sw
  clear eW1 sW1 eW2 sW2 eW3 sW3 eW4 sW4
  have HR := Below.refl w5.heap.size w5
  apply wpX_take (i := 0) rfl rfl (by kernel_rfl) (fun _ _ _ h => h)
  · intro w' hb
    have yrc0 := (rc.below hb zrc).cell 0
    have yrc1 := (rc.below hb zrc).cell 1
    have yrc2 := (rc.below hb zrc).cell 2
    unfold yv
    go_simp
    simp only [yvUpon]
    exact ⟨trivial, rfl⟩
  · go_simp
    exact rfl
  apply wpX_take (i := 1) rfl rfl (by kernel_rfl) (fun _ _ _ h => h)
  · intro w' hb
    have yrs0 := (rs.below hb zrs).cell 0
    have yrs1 := (rs.below hb zrs).cell 1
    unfold yv
    go_simp
    simp only [yvUpon]
    exact ⟨trivial, rfl⟩
  · go_simp
    exact rfl
  apply wpX_take (i := 3) rfl rfl (by kernel_rfl) (fun _ _ _ h => h)
  · intro w' hb
    have yrx0 := (rx.below hb zrx).cell 0
    have yrx1 := (rx.below hb zrx).cell 1
    unfold yv
    go_simp
    simp only [yvUpon]
    exact ⟨trivial, rfl⟩
  · go_simp
    exact rfl
  apply wpX_one (i := 2) rfl rfl (by kernel_rfl)
  unfold mild
  go_simp
  simp only [mildUpon]
  refine ⟨trivial, ?_⟩
  with_reducible refine ((unhide K1) _).mono ?_
  rintro e w6 ⟨rfl, hb⟩
  refine ⟨_, rfl, hb.mono HR.size, ?_⟩
  replace rc := rc.below hb rc.lt
  replace rs := rs.below hb rs.lt
  replace rx := rx.below hb rx.lt
  replace rz := rz.below hb rz.lt
  replace HB := HB.trans (hb.mono HB.size)
  replace HR := HR.trans (hb.mono HR.size)
  clear hb
  apply wpX_one (i := 4) rfl rfl (by kernel_rfl)
  unfold mild
  go_simp
  simp only [mildUpon]
  refine ⟨trivial, ?_⟩
  with_reducible refine ((unhide K2) _).mono ?_
  rintro e w7 ⟨rfl, hb⟩
  refine ⟨_, rfl, hb.mono HR.size, ?_⟩
  replace rc := rc.below hb rc.lt
  replace rs := rs.below hb rs.lt
  replace rx := rx.below hb rx.lt
  replace rz := rz.below hb rz.lt
  replace HB := HB.trans (hb.mono HB.size)
  replace HR := HR.trans (hb.mono HR.size)
  clear hb
  apply wpX_one (i := 5) rfl rfl (by kernel_rfl)
  unfold mild
  go_simp
  simp only [mildUpon]
  refine ⟨trivial, ?_⟩
  with_reducible refine ((unhide K3) _).mono ?_
  rintro e w8 ⟨rfl, hb⟩
  refine ⟨_, rfl, hb.mono HR.size, ?_⟩
  replace rc := rc.below hb rc.lt
  replace rs := rs.below hb rs.lt
  replace rx := rx.below hb rx.lt
  replace rz := rz.below hb rz.lt
  replace HB := HB.trans (hb.mono HB.size)
  replace HR := HR.trans (hb.mono HR.size)
  clear hb
  refine wpX_rest (k := 6) (by kernel_rfl) ?_
  simp only [List.drop_succ_cons, List.drop_zero]
  have rsc0 := rs.cell 0
  have qrc := Qrc.out
  have qrs := Qrs.out
  have qrx := Qrx.out
  have qrz := Qrz.out
  have rzo8 := rz
  obtain ⟨w9, eW9, sW9, hr, hb⟩ := rowX rz #[.int .i64 Q, .int .i64 U] (n := w8.heap.size) rfl HB (by omega)
  replace rc := rc.rowTo eW9 (by omega)
  replace rs := rs.rowTo eW9 (by omega)
  replace rx := rx.rowTo eW9 (by omega)
  replace rz := hr
  replace HB := hb
  clear hb hr qrc qrs qrx qrz
  go_wp2_with (first | (refine wpList_store_row rfl 45 _ _ rfl (w.heap.size + 1 + 1 + 1) #[.int .i64 Q, .int .i64 U] rfl rfl _ _ rzo8 (by kernel_rfl) (by kernel_rfl) (by kernel_rfl) ?_) | (first | (go_at_call 67; (with_reducible refine ((unhide K4) _).mono ?_); rintro e w' ⟨rfl, rfl⟩) | (go_at_call 67; (with_reducible refine ((unhide K5) _).mono ?_); rintro e w' ⟨rfl, rfl⟩)))
  try simp only [eW9]
  exact bodyPost_ret (ret_cell rfl rfl (load_ss rz)) rfl ⟨rfl, HB⟩
end Go.Proofs.YtpfkiohknpeifaaGreat
