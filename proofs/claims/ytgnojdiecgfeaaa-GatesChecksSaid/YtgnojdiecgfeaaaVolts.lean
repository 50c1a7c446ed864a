/- The walks of Volts and of the reference's Volts. -/
import Derived.Test.YtgnojdiecgfeaaaDraw
namespace Go.Proofs.Ytgnojdiecgfeaaa
open Go.RowKit

def lnk (k : Int) : Int := clipI k 0 1048576
theorem lnk_bd (k : Int) : 0 ≤ lnk k ∧ lnk k ≤ 1048576 := by
  unfold lnk clipI; split
  · omega
  · split <;> omega
theorem mulv_bd {h a : Int} (h1 : 0 ≤ h) (h2 : h ≤ 4096) (a1 : 0 ≤ a) (a2 : a ≤ 1048576) : 0 ≤ h * a ∧ h * a ≤ 4294967296 := by
  have e1 : h * a ≤ h * 1048576 := Int.mul_le_mul_of_nonneg_left a2 h1
  have e2 : 0 ≤ h * a := Int.mul_nonneg h1 a1
  omega
/-- A leg's voltage. -/
def voltF (per h l : Int) : Int := h * l / per
def voltP (per : Int) (on : List Bool) (es : List Ed) (leg : Nat) (cur k : Int) : Int := if err per on es = 0 then voltF per (hgh per on es leg cur) (lnk k) else 0

set_option maxRecDepth 100000 in
set_option maxHeartbeats 1600000 in
theorem volts_walk (per : Int) (b0 b1 b2 b3 b4 b5 : Bool) (A : Option Addr) (n c : Nat) (es : List Ed) (i0 i1 i2 k : Int) (w : World) (hE : Sl w w.heap.size 3 A (es.map Ed.row)) (hn : n = es.length) (hm : n ≤ 1000000) :
    Calls Try.prog 40 #[.agg #[.int .i64 per, .bool b0, .bool b1, .bool b2, .bool b3, .bool b4, .bool b5, .slice A n c], .agg #[.int .i64 i0, .int .i64 i1, .int .i64 i2], .int .i64 k] w fun e w' =>
      e = .returned (.tuple #[.agg #[.int .i64 (voltP per [b0, b1, b2, b3, b4, b5] es 0 i0 k), .int .i64 (voltP per [b0, b1, b2, b3, b4, b5] es 1 i1 k), .int .i64 (voltP per [b0, b1, b2, b3, b4, b5] es 2 i2 k)], errV (err per [b0, b1, b2, b3, b4, b5] es)]) ∧ Below w.heap.size w w' := by
  have HN := Lib.hid hn
  clear hn
  have hb0 := (((Below.refl w.heap.size w).alloc (Nat.le_refl _) (.cells #[.int .i64 per, .bool b0, .bool b1, .bool b2, .bool b3, .bool b4, .bool b5, .slice A n c] 25)).alloc (by simp) (.cells #[.int .i64 i0, .int .i64 i1, .int .i64 i2] 26)).alloc (by simp; omega) (.cells #[.int .i64 0, .int .i64 0, .int .i64 0] 26)
  have hhi := high_walk per b0 b1 b2 b3 b4 b5 A n c es i0 i1 i2 _ ((hE.below hb0).more hb0.size) HN.out hm
  obtain ⟨h0, e0⟩ : ∃ h0, hgh per [b0, b1, b2, b3, b4, b5] es 0 i0 = h0 := ⟨_, rfl⟩
  obtain ⟨h1, e1⟩ : ∃ h1, hgh per [b0, b1, b2, b3, b4, b5] es 1 i1 = h1 := ⟨_, rfl⟩
  obtain ⟨h2, e2⟩ : ∃ h2, hgh per [b0, b1, b2, b3, b4, b5] es 2 i2 = h2 := ⟨_, rfl⟩
  have d0 := @hgh_bd per [b0, b1, b2, b3, b4, b5] es 0 i0
  have d1 := @hgh_bd per [b0, b1, b2, b3, b4, b5] es 1 i1
  have d2 := @hgh_bd per [b0, b1, b2, b3, b4, b5] es 2 i2
  rw [e0] at d0
  rw [e1] at d1
  rw [e2] at d2
  rw [e0, e1, e2] at hhi
  have E0 := Lib.hid e0
  have E1 := Lib.hid e1
  have E2 := Lib.hid e2
  clear e0 e1 e2
  by_cases he : err per [b0, b1, b2, b3, b4, b5] es = 0
  case pos =>
    obtain ⟨hc, _⟩ := err_ok he
    obtain ⟨hp1, hp2, _⟩ := chk_zero hc
    rw [he, errV_zero] at hhi
    have HI := hide hhi
    have HE := Lib.hid he
    clear hhi he hc
    obtain ⟨m01, m02⟩ := mulv_bd d0.1 d0.2 (lnk_bd k).1 (lnk_bd k).2
    obtain ⟨m11, m12⟩ := mulv_bd d1.1 d1.2 (lnk_bd k).1 (lnk_bd k).2
    obtain ⟨m21, m22⟩ := mulv_bd d2.1 d2.2 (lnk_bd k).1 (lnk_bd k).2
    go_enter Try.func40, Try.ntmps40
    go_wp2_with fail
    refine (unhide HI).mono ?_
    rintro e w1 ⟨rfl, hb1⟩
    have hbb := hb0.trans (hb1.mono hb0.size)
    have g0 := (((Blk.new w 25 #[.int .i64 per, .bool b0, .bool b1, .bool b2, .bool b3, .bool b4, .bool b5, .slice A n c]).alloc (.cells #[.int .i64 i0, .int .i64 i1, .int .i64 i2] 26)).alloc (.cells #[.int .i64 0, .int .i64 0, .int .i64 0] 26)).below hb1 (by simp; omega)
    have g2 := (Blk.new' (w := (w.alloc (.cells #[.int .i64 per, .bool b0, .bool b1, .bool b2, .bool b3, .bool b4, .bool b5, .slice A n c] 25)).alloc (.cells #[.int .i64 i0, .int .i64 i1, .int .i64 i2] 26)) (t := 26) (cs := #[.int .i64 0, .int .i64 0, .int .i64 0]) (g := w.heap.size + 1 + 1) (by simp)).below hb1 (by simp)
    have hsz : w.heap.size + 1 + 1 < w1.heap.size := g2.lt
    clear hb1 HI hb0
    go_wp2_with fail
    refine (clip_a k 0 1048576 (by omega) _).mono ?_
    rintro e w2 ⟨rfl, rfl⟩
    rw [show clipI k 0 1048576 = lnk k from rfl]
    go_wp2
    go_loopw [23] (fun i wr => ((i = .int .i64 0 ∧ Blk wr w1.heap.size 26 #[.int .i64 h0, .int .i64 h1, .int .i64 h2]) ∨ (i = .int .i64 1 ∧ Blk wr w1.heap.size 26 #[.int .i64 (voltF per h0 (lnk k)), .int .i64 h1, .int .i64 h2]) ∨ (i = .int .i64 2 ∧ Blk wr w1.heap.size 26 #[.int .i64 (voltF per h0 (lnk k)), .int .i64 (voltF per h1 (lnk k)), .int .i64 h2]) ∨ (i = .int .i64 3 ∧ Blk wr w1.heap.size 26 #[.int .i64 (voltF per h0 (lnk k)), .int .i64 (voltF per h1 (lnk k)), .int .i64 (voltF per h2 (lnk k))])) ∧
        Blk wr w.heap.size 25 #[.int .i64 per, .bool b0, .bool b1, .bool b2, .bool b3, .bool b4, .bool b5, .slice A n c] ∧ Blk wr (w.heap.size + 1 + 1) 26 #[.int .i64 0, .int .i64 0, .int .i64 0] ∧ Below w.heap.size w wr) (fun i _ => 3 - (intOf i).toNat)
    case atStart => exact ⟨.inl ⟨rfl, Blk.new _ _ _⟩, g0.alloc _, g2.alloc _, hbb.alloc (by omega) _⟩
    case round =>
    obtain ⟨hd, hper, hres, hbe⟩ := hrel
    have x0 := hper.c8.1
    rcases hd with ⟨rfl, hsum⟩ | ⟨rfl, hsum⟩ | ⟨rfl, hsum⟩ | ⟨rfl, hsum⟩
    all_goals
      obtain ⟨z0, z1, z2⟩ := hsum.c3
      obtain ⟨y0, y1, y2⟩ := hres.c3
      have fz0 := hsum.frozen 0
      have fz1 := hsum.frozen 1
      have fz2 := hsum.frozen 2
      have fy0 := hres.frozen 0
      have fy1 := hres.frozen 1
      have fy2 := hres.frozen 2
    · go_wp2
      go_region
      all_goals go_wp2
      all_goals go_roundw
      case rel => exact ⟨.inr (.inl ⟨rfl, hsum.set_ 0 _⟩), hper.far (by simp; omega) _, hres.far (by simp; omega) _, (hbe.setCell (by simp; omega) _).drew⟩
      case measure => simp [intOf]
    · go_wp2
      go_region
      all_goals go_wp2
      all_goals go_roundw
      case rel => exact ⟨.inr (.inr (.inl ⟨rfl, hsum.set_ 1 _⟩)), hper.far (by simp; omega) _, hres.far (by simp; omega) _, (hbe.setCell (by simp; omega) _).drew⟩
      case measure => simp [intOf]
    · go_wp2
      go_region
      all_goals go_wp2
      all_goals go_roundw
      case rel => exact ⟨.inr (.inr (.inr ⟨rfl, hsum.set_ 2 _⟩)), hper.far (by simp; omega) _, hres.far (by simp; omega) _, (hbe.setCell (by simp; omega) _).drew⟩
      case measure => simp [intOf]
    · go_wp2
      refine bodyPost_ret (ret_cell_tmp rfl rfl (load_ints3 (((hres.set_ 0 _).set_ 1 _).set_ 2 _))) rfl ⟨?_, ?_⟩
      · rw [HE.out, errV_zero]
        simp only [voltP, HE.out, if_true, E0.out, E1.out, E2.out]
        rfl
      · exact ((hbe.setCell (by simp; omega) _).setCell (by simp; omega) _).setCell (by simp; omega) _
  case neg =>
    have HE := Lib.hid he
    rw [errV_ne he] at hhi
    have HI := hide hhi
    clear hhi he
    go_enter Try.func40, Try.ntmps40
    go_wp2_with fail
    refine (unhide HI).mono ?_
    rintro e w1 ⟨rfl, hb1⟩
    have hbb := hb0.trans (hb1.mono hb0.size)
    have g2 := (Blk.new' (w := (w.alloc (.cells #[.int .i64 per, .bool b0, .bool b1, .bool b2, .bool b3, .bool b4, .bool b5, .slice A n c] 25)).alloc (.cells #[.int .i64 i0, .int .i64 i1, .int .i64 i2] 26)) (t := 26) (cs := #[.int .i64 0, .int .i64 0, .int .i64 0]) (g := w.heap.size + 1 + 1) (by simp)).below hb1 (by simp)
    have hsz : w.heap.size + 1 + 1 < w1.heap.size := g2.lt
    obtain ⟨y0, y1, y2⟩ := g2.c3
    have fy0 := g2.frozen 0
    have fy1 := g2.frozen 1
    have fy2 := g2.frozen 2
    go_wp2
    refine bodyPost_ret (ret_cell_tmp rfl rfl (load_ints3 ((((g2.set_ 0 _).set_ 1 _).set_ 2 _).alloc _))) rfl ⟨?_, ?_⟩
    · rw [errV_ne HE.out]
      simp only [voltP, if_neg HE.out]
      rfl
    · exact (((hbb.setCell (by simp; omega) _).setCell (by simp; omega) _).setCell (by simp; omega) _).alloc (by simp; omega) _

end Go.Proofs.Ytgnojdiecgfeaaa
