/- The walk of the reference's Volts. -/
import Derived.Test.YtgnojdiecgfeaaaVolts
import Derived.StillTailTactics
namespace Go.Proofs.Ytgnojdiecgfeaaa
open Go.RowKit

theorem voltF_wrap {per h l : Int} (h1 : 0 ≤ h * l) (h2 : h * l ≤ 4294967296) (hp : 64 ≤ per) : IntKind.i64.wrap ((h * l).tdiv per) = voltF per h l := by
  unfold voltF
  rw [Int.tdiv_eq_ediv_of_nonneg h1]
  have e1 : 0 ≤ h * l / per := Int.ediv_nonneg h1 (by omega)
  have e2 : h * l / per ≤ h * l := Int.ediv_le_self _ h1
  exact IntWalk.i64_in _ (by omega)
theorem lnk_quiet (k : Int) (w : World) : Calls Try.prog 57 #[.int .i64 k, .int .i64 0, .int .i64 1048576] w fun e w' => e = .returned (.int .i64 (lnk k)) ∧ w' = w :=
  (clip_r k 0 1048576 (by omega) w).mono fun _ _ ⟨he, hw⟩ => ⟨he, hw.symm⟩

set_option maxRecDepth 100000 in
set_option maxHeartbeats 1600000 in
theorem rvolts_walk (per : Int) (b0 b1 b2 b3 b4 b5 : Bool) (A : Option Addr) (n c : Nat) (es : List Ed) (i0 i1 i2 k : Int) (w : World) (hE : Sl w w.heap.size 3 A (es.map Ed.row)) (hn : n = es.length) (hm : n ≤ 1000000) (he : err per [b0, b1, b2, b3, b4, b5] es = 0) :
    Calls Try.prog 43 #[.agg #[.int .i64 per, .bool b0, .bool b1, .bool b2, .bool b3, .bool b4, .bool b5, .slice A n c], .agg #[.int .i64 i0, .int .i64 i1, .int .i64 i2], .int .i64 k] w fun e w' =>
      e = .returned (.agg #[.int .i64 (voltP per [b0, b1, b2, b3, b4, b5] es 0 i0 k), .int .i64 (voltP per [b0, b1, b2, b3, b4, b5] es 1 i1 k), .int .i64 (voltP per [b0, b1, b2, b3, b4, b5] es 2 i2 k)]) ∧ Below w.heap.size w w' := by
  have HN := Lib.hid hn
  obtain ⟨hc, _⟩ := err_ok he
  have hb0 := (((Below.refl w.heap.size w).alloc (Nat.le_refl _) (.cells #[.int .i64 per, .bool b0, .bool b1, .bool b2, .bool b3, .bool b4, .bool b5, .slice A n c] 25)).alloc (by simp) (.cells #[.int .i64 i0, .int .i64 i1, .int .i64 i2] 26)).alloc (by simp; omega) (.cells #[.int .i64 0, .int .i64 0, .int .i64 0] 26)
  have hhi := rhigh_walk per b0 b1 b2 b3 b4 b5 A n c es i0 i1 i2 _ ((hE.below hb0).more hb0.size) HN.out hm hc
  rw [← hgh_cnt he, ← hgh_cnt he, ← hgh_cnt he] at hhi
  rw [show voltP per [b0, b1, b2, b3, b4, b5] es 0 i0 k = voltF per (hgh per [b0, b1, b2, b3, b4, b5] es 0 i0) (lnk k) from if_pos he, show voltP per [b0, b1, b2, b3, b4, b5] es 1 i1 k = voltF per (hgh per [b0, b1, b2, b3, b4, b5] es 1 i1) (lnk k) from if_pos he, show voltP per [b0, b1, b2, b3, b4, b5] es 2 i2 k = voltF per (hgh per [b0, b1, b2, b3, b4, b5] es 2 i2) (lnk k) from if_pos he]
  clear hn
  have d0 := @hgh_bd per [b0, b1, b2, b3, b4, b5] es 0 i0
  have d1 := @hgh_bd per [b0, b1, b2, b3, b4, b5] es 1 i1
  have d2 := @hgh_bd per [b0, b1, b2, b3, b4, b5] es 2 i2
  generalize hgh per [b0, b1, b2, b3, b4, b5] es 0 i0 = h0 at *
  generalize hgh per [b0, b1, b2, b3, b4, b5] es 1 i1 = h1 at *
  generalize hgh per [b0, b1, b2, b3, b4, b5] es 2 i2 = h2 at *
  obtain ⟨hp1, hp2, _⟩ := chk_zero hc
  have HI := hide hhi
  clear hhi he hc
  have hpne : ¬ per = 0 := by omega
  obtain ⟨m01, m02⟩ := mulv_bd d0.1 d0.2 (lnk_bd k).1 (lnk_bd k).2
  obtain ⟨m11, m12⟩ := mulv_bd d1.1 d1.2 (lnk_bd k).1 (lnk_bd k).2
  obtain ⟨m21, m22⟩ := mulv_bd d2.1 d2.2 (lnk_bd k).1 (lnk_bd k).2
  go_enter Try.func43, Try.ntmps43
  go_wp2_with fail
  refine (unhide HI).mono ?_
  rintro e w1 ⟨rfl, hb1⟩
  have hbb := hb0.trans (hb1.mono hb0.size)
  have g0 := (((Blk.new w 25 #[.int .i64 per, .bool b0, .bool b1, .bool b2, .bool b3, .bool b4, .bool b5, .slice A n c]).alloc (.cells #[.int .i64 i0, .int .i64 i1, .int .i64 i2] 26)).alloc (.cells #[.int .i64 0, .int .i64 0, .int .i64 0] 26)).below hb1 (by simp; omega)
  have g2 := (Blk.new' (w := (w.alloc (.cells #[.int .i64 per, .bool b0, .bool b1, .bool b2, .bool b3, .bool b4, .bool b5, .slice A n c] 25)).alloc (.cells #[.int .i64 i0, .int .i64 i1, .int .i64 i2] 26)) (t := 26) (cs := #[.int .i64 0, .int .i64 0, .int .i64 0]) (g := w.heap.size + 1 + 1) (by simp)).below hb1 (by simp)
  have hsz : w.heap.size + 1 + 1 < w1.heap.size := g2.lt
  clear hb1 HI hb0
  go_wp2
  go_loopw [8] (fun i wr => ((i = .int .i64 0 ∧ Blk wr w1.heap.size 26 #[.int .i64 h0, .int .i64 h1, .int .i64 h2]) ∨ (i = .int .i64 1 ∧ Blk wr w1.heap.size 26 #[.int .i64 (voltF per h0 (lnk k)), .int .i64 h1, .int .i64 h2]) ∨ (i = .int .i64 2 ∧ Blk wr w1.heap.size 26 #[.int .i64 (voltF per h0 (lnk k)), .int .i64 (voltF per h1 (lnk k)), .int .i64 h2]) ∨ (i = .int .i64 3 ∧ Blk wr w1.heap.size 26 #[.int .i64 (voltF per h0 (lnk k)), .int .i64 (voltF per h1 (lnk k)), .int .i64 (voltF per h2 (lnk k))])) ∧ Blk wr w.heap.size 25 #[.int .i64 per, .bool b0, .bool b1, .bool b2, .bool b3, .bool b4, .bool b5, .slice A n c] ∧ Blk wr (w.heap.size + 1 + 1) 26 #[.int .i64 0, .int .i64 0, .int .i64 0] ∧ Below w.heap.size w wr) (fun i _ => 3 - (intOf i).toNat)
  case atStart => exact ⟨.inl ⟨rfl, Blk.new _ _ _⟩, g0.alloc _, g2.alloc _, hbb.alloc (by omega) _⟩
  case round =>
  obtain ⟨hd, hper, hres, hbe⟩ := hrel
  have x0 := hper.c8.1
  rcases hd with ⟨rfl, hsum⟩ | ⟨rfl, hsum⟩ | ⟨rfl, hsum⟩ | ⟨rfl, hsum⟩
  all_goals
    obtain ⟨z0, z1, z2⟩ := hsum.c3
    obtain ⟨y0, y1, y2⟩ := hres.c3
    have fz0 := hsum.frozen 0
    have fz1 := hsum.frozen 1
    have fz2 := hsum.frozen 2
    have fy0 := hres.frozen 0
    have fy1 := hres.frozen 1
    have fy2 := hres.frozen 2
  · go_wp2
    have ew := IntWalk.i64_in (h0 * lnk k) (by omega)
    have ev := voltF_wrap m01 m02 hp1
    refine wp_region_still_tail 11 (by kernel_rfl) (by kernel_rfl) ?_
    simp only [List.take_succ_cons, List.take_zero, List.drop_succ_cons, List.drop_zero]
    repeat still_step
    still_call (lnk_quiet k _)
    repeat still_step
    refine wpStill_nil ?_
    change wpList _ _ _ _ _ wr.drew
    go_wp2
    go_roundw
    case rel => exact ⟨.inr (.inl ⟨rfl, hsum.set_ 0 _⟩), hper.far (by simp; omega) _, hres.far (by simp; omega) _, (hbe.setCell (by simp; omega) _).drew⟩
    case measure => simp [intOf]
  · go_wp2
    have ew := IntWalk.i64_in (h1 * lnk k) (by omega)
    have ev := voltF_wrap m11 m12 hp1
    refine wp_region_still_tail 11 (by kernel_rfl) (by kernel_rfl) ?_
    simp only [List.take_succ_cons, List.take_zero, List.drop_succ_cons, List.drop_zero]
    repeat still_step
    still_call (lnk_quiet k _)
    repeat still_step
    refine wpStill_nil ?_
    change wpList _ _ _ _ _ wr.drew
    go_wp2
    go_roundw
    case rel => exact ⟨.inr (.inr (.inl ⟨rfl, hsum.set_ 1 _⟩)), hper.far (by simp; omega) _, hres.far (by simp; omega) _, (hbe.setCell (by simp; omega) _).drew⟩
    case measure => simp [intOf]
  · go_wp2
    have ew := IntWalk.i64_in (h2 * lnk k) (by omega)
    have ev := voltF_wrap m21 m22 hp1
    refine wp_region_still_tail 11 (by kernel_rfl) (by kernel_rfl) ?_
    simp only [List.take_succ_cons, List.take_zero, List.drop_succ_cons, List.drop_zero]
    repeat still_step
    still_call (lnk_quiet k _)
    repeat still_step
    refine wpStill_nil ?_
    change wpList _ _ _ _ _ wr.drew
    go_wp2
    go_roundw
    case rel => exact ⟨.inr (.inr (.inr ⟨rfl, hsum.set_ 2 _⟩)), hper.far (by simp; omega) _, hres.far (by simp; omega) _, (hbe.setCell (by simp; omega) _).drew⟩
    case measure => simp [intOf]
  · go_wp2
    refine bodyPost_ret (ret_cell rfl rfl (load_ints3 (((hres.set_ 0 _).set_ 1 _).set_ 2 _))) rfl ⟨rfl, ?_⟩
    exact ((hbe.setCell (by simp; omega) _).setCell (by simp; omega) _).setCell (by simp; omega) _

end Go.Proofs.Ytgnojdiecgfeaaa
