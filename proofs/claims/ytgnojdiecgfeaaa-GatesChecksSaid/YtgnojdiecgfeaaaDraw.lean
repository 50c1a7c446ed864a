/- The walks of Draw and of the reference's Draw. -/
import Derived.Test.YtgnojdiecgfeaaaHigh
import Derived.Test.YtgnojdiecgfeaaaRHigh
import Derived.Test.YtgnojdiecgfeaaaSmall
namespace Go.Proofs.Ytgnojdiecgfeaaa
open Go.RowKit

/-- The current, clipped. -/
def amp (i : Int) : Int := clipI i (-2097152) 2097152
theorem amp_bd (i : Int) : -2097152 ≤ amp i ∧ amp i ≤ 2097152 := by
  unfold amp clipI; split
  · omega
  · split <;> omega
theorem mul_bd {h a : Int} (h1 : 0 ≤ h) (h2 : h ≤ 4096) (a1 : -2097152 ≤ a) (a2 : a ≤ 2097152) : -8589934592 ≤ h * a ∧ h * a ≤ 8589934592 := by
  have e1 : h * a ≤ h * 2097152 := Int.mul_le_mul_of_nonneg_left a2 h1
  have e2 : h * (-2097152) ≤ h * a := Int.mul_le_mul_of_nonneg_left a1 h1
  omega
/-- What is drawn: the sum of the products, divided by the period. -/
def drawF (per h0 h1 h2 i0 i1 i2 : Int) : Int := (h0 * amp i0 + h1 * amp i1 + h2 * amp i2).tdiv per
def drawP (per : Int) (on : List Bool) (es : List Ed) (i0 i1 i2 : Int) : Int := if err per on es = 0 then drawF per (hgh per on es 0 i0) (hgh per on es 1 i1) (hgh per on es 2 i2) i0 i1 i2 else 0
def drawR (per : Int) (on : List Bool) (es : List Ed) (i0 i1 i2 : Int) : Int := drawF per (highR per on es 0 (decide (i0 < 0))) (highR per on es 1 (decide (i1 < 0))) (highR per on es 2 (decide (i2 < 0))) i0 i1 i2
theorem draw_eq {per : Int} {on : List Bool} {es : List Ed} {i0 i1 i2 : Int} (h : err per on es = 0) : drawP per on es i0 i1 i2 = drawR per on es i0 i1 i2 := by
  unfold drawP drawR
  rw [if_pos h, hgh_cnt h, hgh_cnt h, hgh_cnt h]

set_option maxRecDepth 100000 in
set_option maxHeartbeats 1600000 in
theorem draw_walk (per : Int) (b0 b1 b2 b3 b4 b5 : Bool) (A : Option Addr) (n c : Nat) (es : List Ed) (i0 i1 i2 : Int) (w : World) (hE : Sl w w.heap.size 3 A (es.map Ed.row)) (hn : n = es.length) (hm : n ≤ 1000000) :
    Calls Try.prog 20 #[.agg #[.int .i64 per, .bool b0, .bool b1, .bool b2, .bool b3, .bool b4, .bool b5, .slice A n c], .agg #[.int .i64 i0, .int .i64 i1, .int .i64 i2]] w fun e w' =>
      e = .returned (.tuple #[.int .i64 (drawP per [b0, b1, b2, b3, b4, b5] es i0 i1 i2), errV (err per [b0, b1, b2, b3, b4, b5] es)]) ∧ Below w.heap.size w w' := by
  have HN := Lib.hid hn
  clear hn
  have hb0 := ((Below.refl w.heap.size w).alloc (Nat.le_refl _) (.cells #[.int .i64 per, .bool b0, .bool b1, .bool b2, .bool b3, .bool b4, .bool b5, .slice A n c] 25)).alloc (by simp) (.cells #[.int .i64 i0, .int .i64 i1, .int .i64 i2] 26)
  have hhi := high_walk per b0 b1 b2 b3 b4 b5 A n c es i0 i1 i2 _ ((hE.below hb0).more hb0.size) HN.out hm
  obtain ⟨h0, e0⟩ : ∃ h0, hgh per [b0, b1, b2, b3, b4, b5] es 0 i0 = h0 := ⟨_, rfl⟩
  obtain ⟨h1, e1⟩ : ∃ h1, hgh per [b0, b1, b2, b3, b4, b5] es 1 i1 = h1 := ⟨_, rfl⟩
  obtain ⟨h2, e2⟩ : ∃ h2, hgh per [b0, b1, b2, b3, b4, b5] es 2 i2 = h2 := ⟨_, rfl⟩
  have d0 := @hgh_bd per [b0, b1, b2, b3, b4, b5] es 0 i0
  have d1 := @hgh_bd per [b0, b1, b2, b3, b4, b5] es 1 i1
  have d2 := @hgh_bd per [b0, b1, b2, b3, b4, b5] es 2 i2
  rw [e0] at d0
  rw [e1] at d1
  rw [e2] at d2
  rw [e0, e1, e2] at hhi
  have E0 := Lib.hid e0
  have E1 := Lib.hid e1
  have E2 := Lib.hid e2
  clear e0 e1 e2
  by_cases he : err per [b0, b1, b2, b3, b4, b5] es = 0
  · obtain ⟨hc, _⟩ := err_ok he
    obtain ⟨hp1, hp2, _⟩ := chk_zero hc
    rw [he, errV_zero] at hhi
    have HI := hide hhi
    have HE := Lib.hid he
    clear hhi he hc
    have m0 := mul_bd d0.1 d0.2 (amp_bd i0).1 (amp_bd i0).2
    have m1 := mul_bd d1.1 d1.2 (amp_bd i1).1 (amp_bd i1).2
    have m2 := mul_bd d2.1 d2.2 (amp_bd i2).1 (amp_bd i2).2
    obtain ⟨m01, m02⟩ := m0
    obtain ⟨m11, m12⟩ := m1
    obtain ⟨m21, m22⟩ := m2
    have ix0 := index3_0 (.int .i64 h0) (.int .i64 h1) (.int .i64 h2)
    have ix1 := index3_1 (.int .i64 h0) (.int .i64 h1) (.int .i64 h2)
    have ix2 := index3_2 (.int .i64 h0) (.int .i64 h1) (.int .i64 h2)
    go_enter Try.func20, Try.ntmps20
    go_wp2_with fail
    refine (unhide HI).mono ?_
    rintro e w1 ⟨rfl, hb1⟩
    have hbb := hb0.trans (hb1.mono hb0.size)
    have g0 := ((Blk.new w 25 #[.int .i64 per, .bool b0, .bool b1, .bool b2, .bool b3, .bool b4, .bool b5, .slice A n c]).alloc (.cells #[.int .i64 i0, .int .i64 i1, .int .i64 i2] 26)).below hb1 (by simp; omega)
    have g1 := (Blk.new' (w := w.alloc (.cells #[.int .i64 per, .bool b0, .bool b1, .bool b2, .bool b3, .bool b4, .bool b5, .slice A n c] 25)) (t := 26) (cs := #[.int .i64 i0, .int .i64 i1, .int .i64 i2]) (g := w.heap.size + 1) (by simp)).below hb1 (by simp)
    obtain ⟨x0, _⟩ := g0.c8
    obtain ⟨u0, u1, u2⟩ := g1.c3
    have hsz : w.heap.size < w1.heap.size := by have := hbb.size; have := g1.lt; omega
    have hsz1 : w.heap.size + 1 < w1.heap.size := g1.lt
    clear hb1 HI hb0
    go_wp2
    go_loop [8, 21] (fun s i => (i = .int .i64 0 ∧ s = .int .i64 0) ∨ (i = .int .i64 1 ∧ s = .int .i64 (h0 * amp i0)) ∨ (i = .int .i64 2 ∧ s = .int .i64 (h0 * amp i0 + h1 * amp i1)) ∨ (i = .int .i64 3 ∧ s = .int .i64 (h0 * amp i0 + h1 * amp i1 + h2 * amp i2))) (fun _ i => 3 - (intOf i).toNat)
    case atStart => exact .inl ⟨rfl, rfl⟩
    case round =>
      rcases hrel with ⟨rfl, rfl⟩ | ⟨rfl, rfl⟩ | ⟨rfl, rfl⟩ | ⟨rfl, rfl⟩
      · go_wp2_with fail
        refine (clip_a i0 (-2097152) 2097152 (by omega) _).mono ?_
        rintro e w2 ⟨rfl, rfl⟩
        rw [show clipI i0 (-2097152) 2097152 = amp i0 from rfl]
        go_wp2
        go_round
        case rel => exact .inr (.inl ⟨rfl, rfl⟩)
        case measure => simp [intOf]
      · go_wp2_with fail
        refine (clip_a i1 (-2097152) 2097152 (by omega) _).mono ?_
        rintro e w2 ⟨rfl, rfl⟩
        rw [show clipI i1 (-2097152) 2097152 = amp i1 from rfl]
        go_wp2
        go_round
        case rel => exact .inr (.inr (.inl ⟨rfl, rfl⟩))
        case measure => simp [intOf]
      · go_wp2_with fail
        refine (clip_a i2 (-2097152) 2097152 (by omega) _).mono ?_
        rintro e w2 ⟨rfl, rfl⟩
        rw [show clipI i2 (-2097152) 2097152 = amp i2 from rfl]
        go_wp2
        go_round
        case rel => exact .inr (.inr (.inr ⟨rfl, rfl⟩))
        case measure => simp [intOf]
      · go_wp2
        go_ret2
        refine ⟨?_, by first | exact hbb | exact hbb.alloc (by omega) _⟩
        rw [HE.out, errV_zero, show drawP per [b0, b1, b2, b3, b4, b5] es i0 i1 i2 = (h0 * amp i0 + h1 * amp i1 + h2 * amp i2).tdiv per from by
          unfold drawP drawF; rw [if_pos HE.out, E0.out, E1.out, E2.out]]
        rfl
  · have HE := Lib.hid he
    rw [errV_ne he] at hhi
    have HI := hide hhi
    clear hhi he
    go_enter Try.func20, Try.ntmps20
    go_wp2_with fail
    refine (unhide HI).mono ?_
    rintro e w1 ⟨rfl, hb1⟩
    have hbb := hb0.trans (hb1.mono hb0.size)
    go_wp2
    go_ret2
    refine ⟨?_, by first | exact hbb | exact hbb.alloc hbb.size _⟩
    rw [errV_ne HE.out, show drawP per [b0, b1, b2, b3, b4, b5] es i0 i1 i2 = 0 from if_neg HE.out]
    rfl

set_option maxRecDepth 100000 in
set_option maxHeartbeats 1600000 in
theorem rdraw_walk (per : Int) (b0 b1 b2 b3 b4 b5 : Bool) (A : Option Addr) (n c : Nat) (es : List Ed) (i0 i1 i2 : Int) (w : World) (hE : Sl w w.heap.size 3 A (es.map Ed.row)) (hn : n = es.length) (hm : n ≤ 1000000) (he : err per [b0, b1, b2, b3, b4, b5] es = 0) :
    Calls Try.prog 23 #[.agg #[.int .i64 per, .bool b0, .bool b1, .bool b2, .bool b3, .bool b4, .bool b5, .slice A n c], .agg #[.int .i64 i0, .int .i64 i1, .int .i64 i2]] w fun e w' =>
      e = .returned (.int .i64 (drawR per [b0, b1, b2, b3, b4, b5] es i0 i1 i2)) ∧ Below w.heap.size w w' := by
  have HN := Lib.hid hn
  obtain ⟨hc, _⟩ := err_ok he
  have hb0 := ((Below.refl w.heap.size w).alloc (Nat.le_refl _) (.cells #[.int .i64 per, .bool b0, .bool b1, .bool b2, .bool b3, .bool b4, .bool b5, .slice A n c] 25)).alloc (by simp) (.cells #[.int .i64 i0, .int .i64 i1, .int .i64 i2] 26)
  have hhi := rhigh_walk per b0 b1 b2 b3 b4 b5 A n c es i0 i1 i2 _ ((hE.below hb0).more hb0.size) HN.out hm hc
  have hre := @draw_eq per [b0, b1, b2, b3, b4, b5] es i0 i1 i2 he
  rw [← hgh_cnt he, ← hgh_cnt he, ← hgh_cnt he] at hhi
  rw [← hre, show drawP per [b0, b1, b2, b3, b4, b5] es i0 i1 i2 = drawF per (hgh per [b0, b1, b2, b3, b4, b5] es 0 i0) (hgh per [b0, b1, b2, b3, b4, b5] es 1 i1) (hgh per [b0, b1, b2, b3, b4, b5] es 2 i2) i0 i1 i2 from if_pos he]
  clear hn hre
  have d0 := @hgh_bd per [b0, b1, b2, b3, b4, b5] es 0 i0
  have d1 := @hgh_bd per [b0, b1, b2, b3, b4, b5] es 1 i1
  have d2 := @hgh_bd per [b0, b1, b2, b3, b4, b5] es 2 i2
  generalize hgh per [b0, b1, b2, b3, b4, b5] es 0 i0 = h0 at *
  generalize hgh per [b0, b1, b2, b3, b4, b5] es 1 i1 = h1 at *
  generalize hgh per [b0, b1, b2, b3, b4, b5] es 2 i2 = h2 at *
  obtain ⟨hp1, hp2, _⟩ := chk_zero hc
  have HI := hide hhi
  clear hhi he hc
  obtain ⟨m01, m02⟩ := mul_bd d0.1 d0.2 (amp_bd i0).1 (amp_bd i0).2
  obtain ⟨m11, m12⟩ := mul_bd d1.1 d1.2 (amp_bd i1).1 (amp_bd i1).2
  obtain ⟨m21, m22⟩ := mul_bd d2.1 d2.2 (amp_bd i2).1 (amp_bd i2).2
  go_enter Try.func23, Try.ntmps23
  go_wp2_with fail
  refine (unhide HI).mono ?_
  rintro e w1 ⟨rfl, hb1⟩
  have hbb := hb0.trans (hb1.mono hb0.size)
  have g0 := ((Blk.new w 25 #[.int .i64 per, .bool b0, .bool b1, .bool b2, .bool b3, .bool b4, .bool b5, .slice A n c]).alloc (.cells #[.int .i64 i0, .int .i64 i1, .int .i64 i2] 26)).below hb1 (by simp; omega)
  have g1 := (Blk.new' (w := w.alloc (.cells #[.int .i64 per, .bool b0, .bool b1, .bool b2, .bool b3, .bool b4, .bool b5, .slice A n c] 25)) (t := 26) (cs := #[.int .i64 i0, .int .i64 i1, .int .i64 i2]) (g := w.heap.size + 1) (by simp)).below hb1 (by simp)
  have hsz : w.heap.size < w1.heap.size := by have := g1.lt; omega
  have hsz1 : w.heap.size + 1 < w1.heap.size := g1.lt
  clear hb1 HI hb0
  go_wp2
  go_loopw [6, 7] (fun s i wr => ((i = .int .i64 0 ∧ s = .int .i64 0) ∨ (i = .int .i64 1 ∧ s = .int .i64 (h0 * amp i0)) ∨ (i = .int .i64 2 ∧ s = .int .i64 (h0 * amp i0 + h1 * amp i1)) ∨ (i = .int .i64 3 ∧ s = .int .i64 (h0 * amp i0 + h1 * amp i1 + h2 * amp i2))) ∧
      Blk wr w1.heap.size 26 #[.int .i64 h0, .int .i64 h1, .int .i64 h2] ∧ Blk wr (w.heap.size + 1) 26 #[.int .i64 i0, .int .i64 i1, .int .i64 i2] ∧ Blk wr w.heap.size 25 #[.int .i64 per, .bool b0, .bool b1, .bool b2, .bool b3, .bool b4, .bool b5, .slice A n c] ∧ Below w.heap.size w wr) (fun _ i _ => 3 - (intOf i).toNat)
  case atStart => exact ⟨.inl ⟨rfl, rfl⟩, Blk.new _ _ _, g1.alloc _, g0.alloc _, hbb.alloc (by omega) _⟩
  case round =>
    obtain ⟨hd, hsum, hcur, hper, hbe⟩ := hrel
    obtain ⟨z0, z1, z2⟩ := hsum.c3
    obtain ⟨u0, u1, u2⟩ := hcur.c3
    have x0 := hper.c8.1
    rcases hd with ⟨rfl, rfl⟩ | ⟨rfl, rfl⟩ | ⟨rfl, rfl⟩ | ⟨rfl, rfl⟩
    · go_wp2
      go_quiet ((go_at_call 57; exact quiet_left (clip_r i0 (-2097152) 2097152 (by omega) _)))
      rw [show clipI i0 (-2097152) 2097152 = amp i0 from rfl]
      go_wp2
      go_roundw
      case rel => exact ⟨.inr (.inl ⟨rfl, congrArg (Value.int .i64) (by rw [w64 (x := h0 * amp i0) (by omega) (by omega), w64 (by omega) (by omega)])⟩), hsum.drewN nq, hcur.drewN nq, hper.drewN nq, below_drewN hbe nq⟩
      case measure => simp [intOf]
    · go_wp2
      go_quiet ((go_at_call 57; exact quiet_left (clip_r i1 (-2097152) 2097152 (by omega) _)))
      rw [show clipI i1 (-2097152) 2097152 = amp i1 from rfl]
      go_wp2
      go_roundw
      case rel => exact ⟨.inr (.inr (.inl ⟨rfl, congrArg (Value.int .i64) (by rw [w64 (x := h1 * amp i1) (by omega) (by omega), w64 (by omega) (by omega)])⟩)), hsum.drewN nq, hcur.drewN nq, hper.drewN nq, below_drewN hbe nq⟩
      case measure => simp [intOf]
    · go_wp2
      go_quiet ((go_at_call 57; exact quiet_left (clip_r i2 (-2097152) 2097152 (by omega) _)))
      rw [show clipI i2 (-2097152) 2097152 = amp i2 from rfl]
      go_wp2
      go_roundw
      case rel => exact ⟨.inr (.inr (.inr ⟨rfl, congrArg (Value.int .i64) (by rw [w64 (x := h2 * amp i2) (by omega) (by omega), w64 (by omega) (by omega)])⟩)), hsum.drewN nq, hcur.drewN nq, hper.drewN nq, below_drewN hbe nq⟩
      case measure => simp [intOf]
    · go_wp2
      go_ret
      exact ⟨rfl, hbe⟩

end Go.Proofs.Ytgnojdiecgfeaaa
