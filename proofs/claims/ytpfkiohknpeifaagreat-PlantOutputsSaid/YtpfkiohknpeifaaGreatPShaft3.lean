/- The walks of shaft.Step and of the reference's. -/
import Derived.Test.YtpfkiohknpeifaaGreatPShaft2
import Derived.Test.YtpfkiohknpeifaaGreatBox
namespace Go.Proofs.YtpfkiohknpeifaaGreat
open Go.RowKit
theorem load_ss {w : World} {g : Nat} {t : TypeId} {a b : Value} (h : Blk w g t #[a, b]) : (loadVar 45 ⟨g, 0, none⟩).run Tryz.prog w = .ok (.agg #[a, b]) w := by
  obtain ⟨k0, k1⟩ := h.c2
  simp [go_sem, k0, k1]
set_option maxRecDepth 100000 in
set_option maxHeartbeats 1600000 in
theorem sstepM (g d y p v t l : Int) (w : World) (hc : shCode g d y = 0) :
    Calls Tryz.prog 43 #[.agg #[.int .i64 g, .int .i64 d, .int .i64 y], .agg #[.int .i64 p, .int .i64 v], .agg #[.int .i64 t, .int .i64 l]] w fun e w' => e = .returned (.tuple #[.agg #[.int .i64 (npV g d y p v t l), .int .i64 (nvV g d y v t l)], .nilIface]) ∧ Below w.heap.size w w' := by
  obtain ⟨bg, bd, by1, by2⟩ := sh_ok hc
  have c1 := fun W => qs (clipShM t (-16777216) 16777216 (by omega) W)
  have c2 := fun W => qs (clipShM l (-16777216) 16777216 (by omega) W)
  have c3 := fun W => qs (clipShM v (-1073741824) 1073741824 (by omega) W)
  have b1 := clip_bd t (-16777216) 16777216 (by omega)
  have b2 := clip_bd l (-16777216) 16777216 (by omega)
  have b3 := clip_bd v (-1073741824) 1073741824 (by omega)
  have hn : netV t l = clipI t (-16777216) 16777216 - clipI l (-16777216) 16777216 := rfl
  have hv : nvV g d y v t l = spdV g d y (clipI v (-1073741824) 1073741824) (netV t l) := rfl
  have hp : npV g d y p v t l = wrapP (p + nvV g d y v t l) := rfl
  have bn := netV_bd t l
  have c4 := fun W => speedM g d y (clipI v (-1073741824) 1073741824) (netV t l) W bg bd ⟨by1, by2⟩ b3 bn
  have bv := spdV_bd g d y (clipI v (-1073741824) 1073741824) (netV t l)
  rw [← hv] at bv
  simp only [← hv] at c4
  obtain ⟨T, hT⟩ : ∃ x, clipI t (-16777216) 16777216 = x := ⟨_, rfl⟩
  obtain ⟨K, hK⟩ : ∃ x, clipI l (-16777216) 16777216 = x := ⟨_, rfl⟩
  obtain ⟨V, hV⟩ : ∃ x, clipI v (-1073741824) 1073741824 = x := ⟨_, rfl⟩
  obtain ⟨N, hN⟩ : ∃ x, netV t l = x := ⟨_, rfl⟩
  obtain ⟨U, hU⟩ : ∃ x, nvV g d y v t l = x := ⟨_, rfl⟩
  simp only [hT] at c1
  simp only [hK] at c2
  simp only [hV, hN, hU] at c3 c4
  rw [hT, hK, hN] at hn
  rw [hT] at b1
  rw [hK] at b2
  rw [hU] at bv hp ⊢
  have e1 : wrap64 (T - K) = N := by unfold wrap64; omega
  have e2 : IntKind.i64.wrap (T - K) = N := by rw [IntWalk.i64_in _ (by omega)]; omega
  have c5 := fun W => wrapM (wrap64 (p + U)) W
  have e3 : wrapP (wrap64 (p + U)) = wrapP (p + U) := by unfold wrapP wrap64; omega
  simp only [e3, ← hp] at c5
  obtain ⟨Q, hQ⟩ : ∃ x, npV g d y p v t l = x := ⟨_, rfl⟩
  simp only [hQ] at c5 ⊢
  have C1 := hide c1
  have C2 := hide c2
  have C3 := hide c3
  have C4 := hide c4
  have C5 := hide c5
  have hck := fun W => shckM g d y W
  simp only [hc, errV_zero] at hck
  have HCK := hide hck
  clear hck
  clear c1 c2 c3 c4 c5 hn hv hp hT hK hV hN hU e3 hQ hc
  obtain ⟨W1, eW1, sW1, gc_0, bW1⟩ := box w #[.int .i64 g, .int .i64 d, .int .i64 y] 30 (g := w.heap.size) rfl (Below.refl w.heap.size w) (by omega)
  obtain ⟨W2, eW2, sW2, gs_0, bW2⟩ := box W1 #[.int .i64 p, .int .i64 v] 45 (g := w.heap.size + 1) sW1 bW1 (by omega)
  replace gc_0 := gc_0.al eW2
  obtain ⟨W3, eW3, sW3, gx_0, bW3⟩ := box W2 #[.int .i64 t, .int .i64 l] 110 (g := w.heap.size + 1 + 1) sW2 bW2 (by omega)
  replace gc_0 := gc_0.al eW3
  replace gs_0 := gs_0.al eW3
  obtain ⟨W4, eW4, sW4, gz_0, bW4⟩ := box W3 #[.int .i64 0, .int .i64 0] 45 (g := w.heap.size + 1 + 1 + 1) sW3 bW3 (by omega)
  replace gc_0 := gc_0.al eW4
  replace gs_0 := gs_0.al eW4
  replace gx_0 := gx_0.al eW4
  have HB0 := bW4
  have lgc_0 := gc_0.lt
  have lgs_0 := gs_0.lt
  have lgx_0 := gx_0.lt
  have lgz_0 := gz_0.lt
  go_enter Tryz.func43, Tryz.ntmps43
  have gcc0 := gc_0.cell 0
  have gcc1 := gc_0.cell 1
  have gcc2 := gc_0.cell 2
  go_wp2_with fail
  with_reducible refine ((unhide HCK) _).mono ?_
  rintro e w1 ⟨rfl, hb1⟩
  have HB1 := HB0.trans (hb1.mono HB0.size)
  have gc_1 := gc_0.below hb1 gc_0.lt
  have lgc_1 := gc_1.lt
  have gs_1 := gs_0.below hb1 gs_0.lt
  have lgs_1 := gs_1.lt
  have gx_1 := gx_0.below hb1 gx_0.lt
  have lgx_1 := gx_1.lt
  have gz_1 := gz_0.below hb1 gz_0.lt
  have lgz_1 := gz_1.lt
  have gxc0 := gx_1.cell 0
  have gxc1 := gx_1.cell 1
  go_wp2_with fail
  refine wp_region_mix 8 (by kernel_rfl) (by kernel_rfl) (fun _ _ _ _ _ h => h) ?_
  simp only [List.take_succ_cons, List.take_zero, List.drop_succ_cons, List.drop_zero]
  repeat still_step
  still_call ((unhide C1) _)
  repeat still_step
  still_call ((unhide C2) _)
  repeat still_step
  refine wpStill_nil ?_
  change wpList _ _ _ _ _ w1.drew
  obtain ⟨w2, hw, sw⟩ := drewX w1
  have gc_2 : Blk w2 (w.heap.size) 30 #[.int .i64 g, .int .i64 d, .int .i64 y] := hw ▸ gc_1.drew
  have lgc_2 := gc_2.lt
  have gs_2 : Blk w2 (w.heap.size + 1) 45 #[.int .i64 p, .int .i64 v] := hw ▸ gs_1.drew
  have lgs_2 := gs_2.lt
  have gx_2 : Blk w2 (w.heap.size + 1 + 1) 110 #[.int .i64 t, .int .i64 l] := hw ▸ gx_1.drew
  have lgx_2 := gx_2.lt
  have gz_2 : Blk w2 (w.heap.size + 1 + 1 + 1) 45 #[.int .i64 0, .int .i64 0] := hw ▸ gz_1.drew
  have lgz_2 := gz_2.lt
  have HB2 : Below w.heap.size w w2 := hw ▸ HB1.drew
  simp only [hw]
  clear hw sw
  clear gcc0 gcc1 gcc2 gxc0 gxc1
  have gcc0 := gc_2.cell 0
  have gcc1 := gc_2.cell 1
  have gcc2 := gc_2.cell 2
  have gsc0 := gs_2.cell 0
  have gsc1 := gs_2.cell 1
  go_wp2_with fail
  refine wp_region_mix 5 (by kernel_rfl) (by kernel_rfl) (fun _ _ _ _ _ h => h) ?_
  simp only [List.take_succ_cons, List.take_zero, List.drop_succ_cons, List.drop_zero]
  repeat still_step
  still_call ((unhide C3) _)
  repeat still_step
  refine wpStill_nil ?_
  change wpList _ _ _ _ _ w2.drew
  obtain ⟨w3, hw, sw⟩ := drewX w2
  have gc_3 : Blk w3 (w.heap.size) 30 #[.int .i64 g, .int .i64 d, .int .i64 y] := hw ▸ gc_2.drew
  have lgc_3 := gc_3.lt
  have gs_3 : Blk w3 (w.heap.size + 1) 45 #[.int .i64 p, .int .i64 v] := hw ▸ gs_2.drew
  have lgs_3 := gs_3.lt
  have gx_3 : Blk w3 (w.heap.size + 1 + 1) 110 #[.int .i64 t, .int .i64 l] := hw ▸ gx_2.drew
  have lgx_3 := gx_3.lt
  have gz_3 : Blk w3 (w.heap.size + 1 + 1 + 1) 45 #[.int .i64 0, .int .i64 0] := hw ▸ gz_2.drew
  have lgz_3 := gz_3.lt
  have HB3 : Below w.heap.size w w3 := hw ▸ HB2.drew
  simp only [hw]
  clear hw sw
  clear gcc0 gcc1 gcc2 gsc0 gsc1
  have gsc0 := gs_3.cell 0
  go_wp2_with fail
  with_reducible refine ((unhide C4) _).mono ?_
  rintro e w4 ⟨rfl, hb4⟩
  have HB4 := HB3.trans (hb4.mono HB3.size)
  have gc_4 := gc_3.below hb4 gc_3.lt
  have lgc_4 := gc_4.lt
  have gs_4 := gs_3.below hb4 gs_3.lt
  have lgs_4 := gs_4.lt
  have gx_4 := gx_3.below hb4 gx_3.lt
  have lgx_4 := gx_4.lt
  have gz_4 := gz_3.below hb4 gz_3.lt
  have lgz_4 := gz_4.lt
  have gsc0 := gs_4.cell 0
  have gzc0 := gz_4.cell 0
  have gzc1 := gz_4.cell 1
  have f0 := gz_4.frozen 0
  have f1 := gz_4.frozen 1
  go_wp2_with (first | (go_at_call 65; (with_reducible refine ((unhide C5) _).mono ?_); rintro e w' ⟨rfl, rfl⟩))
  refine bodyPost_ret (ret_cell_tmp rfl rfl (load_ss ((gz_4.set_ 0 _).set_ 1 _))) rfl ⟨rfl, ?_⟩
  exact (HB4.setCell (by simp; omega) _).setCell (by simp; omega) _
end Go.Proofs.YtpfkiohknpeifaaGreat
