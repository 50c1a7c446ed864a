/- The walks of Vector and of the reference's Vector. -/
import Derived.Test.YtgnojdiecgfeaaaRVolts
import Derived.Test.YtgnojdiecgfeaaaFwd
namespace Go.Proofs.Ytgnojdiecgfeaaa
open Go.RowKit

theorem voltP_bd {per : Int} {on : List Bool} {es : List Ed} {leg : Nat} {cur k : Int} : 0 ≤ voltP per on es leg cur k ∧ voltP per on es leg cur k ≤ 67108864 := by
  unfold voltP
  split
  · rename_i h
    obtain ⟨hc, _⟩ := err_ok h
    obtain ⟨hp1, hp2, _⟩ := chk_zero hc
    have hb := @hgh_bd per on es leg cur
    obtain ⟨m1, m2⟩ := mulv_bd hb.1 hb.2 (lnk_bd k).1 (lnk_bd k).2
    unfold voltF
    refine ⟨Int.ediv_nonneg m1 (by omega), ?_⟩
    have h1 : hgh per on es leg cur * lnk k < 67108865 * per := by omega
    have := Int.ediv_lt_of_lt_mul (by omega) h1
    omega
  · omega
theorem voltP_err {per : Int} {on : List Bool} {es : List Ed} {leg : Nat} {cur k : Int} (h : err per on es ≠ 0) : voltP per on es leg cur k = 0 := if_neg h

set_option maxRecDepth 100000 in
set_option maxHeartbeats 1600000 in
theorem vector_walk (per : Int) (b0 b1 b2 b3 b4 b5 : Bool) (A : Option Addr) (n c : Nat) (es : List Ed) (i0 i1 i2 k : Int) (w : World) (hE : Sl w w.heap.size 3 A (es.map Ed.row)) (hn : n = es.length) (hm : n ≤ 1000000) :
    Calls Try.prog 41 #[.agg #[.int .i64 per, .bool b0, .bool b1, .bool b2, .bool b3, .bool b4, .bool b5, .slice A n c], .agg #[.int .i64 i0, .int .i64 i1, .int .i64 i2], .int .i64 k] w fun e w' =>
      e = .returned (.tuple #[.agg #[.int .i64 (fwdA (voltP per [b0, b1, b2, b3, b4, b5] es 0 i0 k) (voltP per [b0, b1, b2, b3, b4, b5] es 1 i1 k) (voltP per [b0, b1, b2, b3, b4, b5] es 2 i2 k)), .int .i64 (fwdB (voltP per [b0, b1, b2, b3, b4, b5] es 1 i1 k) (voltP per [b0, b1, b2, b3, b4, b5] es 2 i2 k))], errV (err per [b0, b1, b2, b3, b4, b5] es)]) ∧ Below w.heap.size w w' := by
  have HN := Lib.hid hn
  clear hn
  have hb0 := (((Below.refl w.heap.size w).alloc (Nat.le_refl _) (.cells #[.int .i64 per, .bool b0, .bool b1, .bool b2, .bool b3, .bool b4, .bool b5, .slice A n c] 25)).alloc (by simp) (.cells #[.int .i64 i0, .int .i64 i1, .int .i64 i2] 26)).alloc (by simp; omega) (.cells #[.int .i64 0, .int .i64 0] 73)
  have hv := volts_walk per b0 b1 b2 b3 b4 b5 A n c es i0 i1 i2 k _ ((hE.below hb0).more hb0.size) HN.out hm
  obtain ⟨v0, e0⟩ : ∃ v0, voltP per [b0, b1, b2, b3, b4, b5] es 0 i0 k = v0 := ⟨_, rfl⟩
  obtain ⟨v1, e1⟩ : ∃ v1, voltP per [b0, b1, b2, b3, b4, b5] es 1 i1 k = v1 := ⟨_, rfl⟩
  obtain ⟨v2, e2⟩ : ∃ v2, voltP per [b0, b1, b2, b3, b4, b5] es 2 i2 k = v2 := ⟨_, rfl⟩
  have d0 := @voltP_bd per [b0, b1, b2, b3, b4, b5] es 0 i0 k
  have d1 := @voltP_bd per [b0, b1, b2, b3, b4, b5] es 1 i1 k
  have d2 := @voltP_bd per [b0, b1, b2, b3, b4, b5] es 2 i2 k
  have hz0 := @voltP_err per [b0, b1, b2, b3, b4, b5] es 0 i0 k
  have hz1 := @voltP_err per [b0, b1, b2, b3, b4, b5] es 1 i1 k
  have hz2 := @voltP_err per [b0, b1, b2, b3, b4, b5] es 2 i2 k
  rw [e0] at d0 hz0
  rw [e1] at d1 hz1
  rw [e2] at d2 hz2
  rw [e0, e1, e2] at hv ⊢
  clear e0 e1 e2
  by_cases he : err per [b0, b1, b2, b3, b4, b5] es = 0
  · rw [he, errV_zero] at hv
    have HV := hide hv
    have HE := Lib.hid he
    clear hv he hz0 hz1 hz2
    go_enter Try.func41, Try.ntmps41
    go_wp2_with fail
    refine (unhide HV).mono ?_
    rintro e w1 ⟨rfl, hb1⟩
    have hbb := hb0.trans (hb1.mono hb0.size)
    have g2 := (Blk.new' (w := (w.alloc (.cells #[.int .i64 per, .bool b0, .bool b1, .bool b2, .bool b3, .bool b4, .bool b5, .slice A n c] 25)).alloc (.cells #[.int .i64 i0, .int .i64 i1, .int .i64 i2] 26)) (t := 73) (cs := #[.int .i64 0, .int .i64 0]) (g := w.heap.size + 1 + 1) (by simp)).below hb1 (by simp)
    have hsz : w.heap.size + 1 + 1 < w1.heap.size := g2.lt
    clear hb0 hb1 HV
    go_wp2_with fail
    refine (forward_walk v0 v1 v2 _ (by omega) (by omega) (by omega) (by omega) (by omega) (by omega)).mono ?_
    rintro e w2 ⟨rfl, hb2⟩
    have hbc := (hbb.alloc hbb.size (.cells #[.int .i64 v0, .int .i64 v1, .int .i64 v2] 26)).trans (hb2.mono (by simp; omega))
    have g3 := (g2.alloc (.cells #[.int .i64 v0, .int .i64 v1, .int .i64 v2] 26)).below hb2 (by simp; omega)
    obtain ⟨y0, y1⟩ := g3.c2
    have f0 := g3.frozen 0
    have f1 := g3.frozen 1
    clear hb2 g2
    go_wp2
    refine bodyPost_ret (ret_cell_tmp rfl rfl (load_ab ((g3.set_ 0 _).set_ 1 _))) rfl ⟨?_, (hbc.setCell (by simp; omega) _).setCell (by simp; omega) _⟩
    rw [HE.out, errV_zero]
    rfl
  · rw [errV_ne he] at hv
    have HV := hide hv
    have HE := Lib.hid he
    obtain rfl := hz0 he
    obtain rfl := hz1 he
    obtain rfl := hz2 he
    clear hv he hz0 hz1 hz2
    go_enter Try.func41, Try.ntmps41
    go_wp2_with fail
    refine (unhide HV).mono ?_
    rintro e w1 ⟨rfl, hb1⟩
    have hbb := hb0.trans (hb1.mono hb0.size)
    have g2 := (Blk.new' (w := (w.alloc (.cells #[.int .i64 per, .bool b0, .bool b1, .bool b2, .bool b3, .bool b4, .bool b5, .slice A n c] 25)).alloc (.cells #[.int .i64 i0, .int .i64 i1, .int .i64 i2] 26)) (t := 73) (cs := #[.int .i64 0, .int .i64 0]) (g := w.heap.size + 1 + 1) (by simp)).below hb1 (by simp)
    have hsz : w.heap.size + 1 + 1 < w1.heap.size := g2.lt
    obtain ⟨y0, y1⟩ := g2.c2
    have f0 := g2.frozen 0
    have f1 := g2.frozen 1
    clear hb0 hb1 HV
    go_wp2
    refine bodyPost_ret (ret_cell_tmp rfl rfl (load_ab (((g2.set_ 0 _).set_ 1 _).alloc _))) rfl ⟨?_, ((hbb.setCell (by simp; omega) _).setCell (by simp; omega) _).alloc (by simp; omega) _⟩
    rw [errV_ne HE.out]
    rfl

set_option maxRecDepth 100000 in
set_option maxHeartbeats 1600000 in
theorem rvector_walk (per : Int) (b0 b1 b2 b3 b4 b5 : Bool) (A : Option Addr) (n c : Nat) (es : List Ed) (i0 i1 i2 k : Int) (w : World) (hE : Sl w w.heap.size 3 A (es.map Ed.row)) (hn : n = es.length) (hm : n ≤ 1000000) (he : err per [b0, b1, b2, b3, b4, b5] es = 0) :
    Calls Try.prog 44 #[.agg #[.int .i64 per, .bool b0, .bool b1, .bool b2, .bool b3, .bool b4, .bool b5, .slice A n c], .agg #[.int .i64 i0, .int .i64 i1, .int .i64 i2], .int .i64 k] w fun e w' =>
      e = .returned (.agg #[.int .i64 (fwdA (voltP per [b0, b1, b2, b3, b4, b5] es 0 i0 k) (voltP per [b0, b1, b2, b3, b4, b5] es 1 i1 k) (voltP per [b0, b1, b2, b3, b4, b5] es 2 i2 k)), .int .i64 (fwdB (voltP per [b0, b1, b2, b3, b4, b5] es 1 i1 k) (voltP per [b0, b1, b2, b3, b4, b5] es 2 i2 k))]) ∧ Below w.heap.size w w' := by
  have HN := Lib.hid hn
  clear hn
  have hb0 := (((Below.refl w.heap.size w).alloc (Nat.le_refl _) (.cells #[.int .i64 per, .bool b0, .bool b1, .bool b2, .bool b3, .bool b4, .bool b5, .slice A n c] 25)).alloc (by simp) (.cells #[.int .i64 i0, .int .i64 i1, .int .i64 i2] 26)).alloc (by simp; omega) (.cells #[.int .i64 0, .int .i64 0] 73)
  have hv := rvolts_walk per b0 b1 b2 b3 b4 b5 A n c es i0 i1 i2 k _ ((hE.below hb0).more hb0.size) HN.out hm he
  obtain ⟨v0, e0⟩ : ∃ v0, voltP per [b0, b1, b2, b3, b4, b5] es 0 i0 k = v0 := ⟨_, rfl⟩
  obtain ⟨v1, e1⟩ : ∃ v1, voltP per [b0, b1, b2, b3, b4, b5] es 1 i1 k = v1 := ⟨_, rfl⟩
  obtain ⟨v2, e2⟩ : ∃ v2, voltP per [b0, b1, b2, b3, b4, b5] es 2 i2 k = v2 := ⟨_, rfl⟩
  have d0 := @voltP_bd per [b0, b1, b2, b3, b4, b5] es 0 i0 k
  have d1 := @voltP_bd per [b0, b1, b2, b3, b4, b5] es 1 i1 k
  have d2 := @voltP_bd per [b0, b1, b2, b3, b4, b5] es 2 i2 k
  have hz0 := @voltP_err per [b0, b1, b2, b3, b4, b5] es 0 i0 k
  have hz1 := @voltP_err per [b0, b1, b2, b3, b4, b5] es 1 i1 k
  have hz2 := @voltP_err per [b0, b1, b2, b3, b4, b5] es 2 i2 k
  rw [e0] at d0 hz0
  rw [e1] at d1 hz1
  rw [e2] at d2 hz2
  rw [e0, e1, e2] at hv ⊢
  clear e0 e1 e2
  have HV := hide hv
  clear hv hz0 hz1 hz2 he
  go_enter Try.func44, Try.ntmps44
  go_wp2_with fail
  refine (unhide HV).mono ?_
  rintro e w1 ⟨rfl, hb1⟩
  have hbb := hb0.trans (hb1.mono hb0.size)
  have g2 := (Blk.new' (w := (w.alloc (.cells #[.int .i64 per, .bool b0, .bool b1, .bool b2, .bool b3, .bool b4, .bool b5, .slice A n c] 25)).alloc (.cells #[.int .i64 i0, .int .i64 i1, .int .i64 i2] 26)) (t := 73) (cs := #[.int .i64 0, .int .i64 0]) (g := w.heap.size + 1 + 1) (by simp)).below hb1 (by simp)
  have hsz : w.heap.size + 1 + 1 < w1.heap.size := g2.lt
  clear hb0 hb1 HV
  go_wp2_with fail
  refine (rforward_walk v0 v1 v2 _ (by omega) (by omega) (by omega) (by omega) (by omega) (by omega)).mono ?_
  rintro e w2 ⟨rfl, hb2⟩
  have hbc := (hbb.alloc hbb.size (.cells #[.int .i64 v0, .int .i64 v1, .int .i64 v2] 26)).trans (hb2.mono (by simp; omega))
  have g3 := (g2.alloc (.cells #[.int .i64 v0, .int .i64 v1, .int .i64 v2] 26)).below hb2 (by simp; omega)
  obtain ⟨y0, y1⟩ := g3.c2
  have f0 := g3.frozen 0
  have f1 := g3.frozen 1
  clear hb2 g2
  go_wp2
  refine bodyPost_ret (ret_cell rfl rfl (load_ab ((g3.set_ 0 _).set_ 1 _))) rfl ⟨rfl, (hbc.setCell (by simp; omega) _).setCell (by simp; omega) _⟩


end Go.Proofs.Ytgnojdiecgfeaaa
