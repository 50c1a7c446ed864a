/- The walk of the statement InverterDraws. -/
import Derived.Test.YtgnojdiecgfeaaaAwakeI
namespace Go.Proofs.Ytgnojdiecgfeaaa
open Go.RowKit

set_option maxHeartbeats 1600000 in
theorem inverterDraws_walk (per : Int) (b0 b1 b2 b3 b4 b5 : Bool) (A : Option Addr) (n c : Nat) (es : List Ed) (i0 i1 i2 : Int) (w : World) (hE : Sl w w.heap.size 3 A (es.map Ed.row)) (hn : n = es.length) :
    Calls Try.prog 3 #[.agg #[.int .i64 per, .bool b0, .bool b1, .bool b2, .bool b3, .bool b4, .bool b5, .slice A n c], .agg #[.int .i64 i0, .int .i64 i1, .int .i64 i2]] w fun e w' => e = .returned (.bool true) ∧ Below w.heap.size w w' := by
  have HN := Lib.hid hn
  clear hn
  have hb0 := ((Below.refl w.heap.size w).alloc (Nat.le_refl _) (.cells #[.int .i64 per, .bool b0, .bool b1, .bool b2, .bool b3, .bool b4, .bool b5, .slice A n c] 25)).alloc (by simp) (.cells #[.int .i64 i0, .int .i64 i1, .int .i64 i2] 26)
  have g0 := (Blk.new w 25 #[.int .i64 per, .bool b0, .bool b1, .bool b2, .bool b3, .bool b4, .bool b5, .slice A n c]).alloc (.cells #[.int .i64 i0, .int .i64 i1, .int .i64 i2] 26)
  have g1 := Blk.new' (w := w.alloc (.cells #[.int .i64 per, .bool b0, .bool b1, .bool b2, .bool b3, .bool b4, .bool b5, .slice A n c] 25)) (t := 26) (cs := #[.int .i64 i0, .int .i64 i1, .int .i64 i2]) (g := w.heap.size + 1) (by simp)
  by_cases hbig : 500 < n
  · go_enter Try.func3, Try.ntmps3
    go_wp2_with fail
    refine (awake_walk _).mono ?_
    rintro e w1 ⟨rfl, hb1⟩
    have hbb := hb0.trans (hb1.mono (by simp; omega))
    obtain ⟨x0, x1, x2, x3, x4, x5, x6, x7⟩ := (g0.below hb1 g0.lt).c8
    clear hb0 g0 g1 hb1
    go_wp2_with fail
    refine (awake_walk _).mono ?_
    rintro e w2 ⟨rfl, hb2⟩
    have hbc := hbb.trans (hb2.mono hbb.size)
    go_wp2
    go_ret
    exact ⟨rfl, hbc⟩
  · obtain ⟨er, her⟩ : ∃ er, err per [b0, b1, b2, b3, b4, b5] es = er := ⟨_, rfl⟩
    have HER := Lib.hid her
    clear her
    go_enter Try.func3, Try.ntmps3
    go_wp2_with fail
    refine (awake_walk _).mono ?_
    rintro e w1 ⟨rfl, hb1⟩
    have hb2 := hb0.trans (hb1.mono (by simp; omega))
    have g01 := g0.below hb1 g0.lt
    have g11 := g1.below hb1 g1.lt
    clear hb0 g0 g1 hb1
    obtain ⟨x0, x1, x2, x3, x4, x5, x6, x7⟩ := g01.c8
    obtain ⟨u0, u1, u2⟩ := g11.c3
    go_wp2_with fail
    have hd := draw_walk per b0 b1 b2 b3 b4 b5 A n c es i0 i1 i2 w1 ((hE.below hb2).more hb2.size) HN.out (by omega)
    rw [HER.out] at hd
    refine hd.mono ?_
    clear hd
    rintro e w2 ⟨rfl, hb3⟩
    have hb4 := hb2.trans (hb3.mono hb2.size)
    have g02 := g01.below hb3 g01.lt
    have g12 := g11.below hb3 g11.lt
    clear hb2 hb3 g01 g11 x0 x1 x2 x3 x4 x5 x6 x7 u0 u1 u2
    obtain ⟨x0, x1, x2, x3, x4, x5, x6, x7⟩ := g02.c8
    obtain ⟨u0, u1, u2⟩ := g12.c3
    go_wp2_with fail
    have hd := rerror_walk per b0 b1 b2 b3 b4 b5 A n c es w2 ((hE.below hb4).more hb4.size) HN.out (by omega)
    rw [HER.out] at hd
    refine hd.mono ?_
    clear hd
    rintro e w3 ⟨rfl, hb3⟩
    have hb5 := hb4.trans (hb3.mono hb4.size)
    have g03 := g02.below hb3 g02.lt
    have g13 := g12.below hb3 g12.lt
    clear hb4 hb3 g02 g12 x0 x1 x2 x3 x4 x5 x6 x7 u0 u1 u2
    obtain ⟨x0, x1, x2, x3, x4, x5, x6, x7⟩ := g03.c8
    obtain ⟨u0, u1, u2⟩ := g13.c3
    by_cases he : er = 0
    · subst he
      have hq := draw_eq (i0 := i0) (i1 := i1) (i2 := i2) HER.out
      rw [errV_zero]
      rw [hq]
      clear hq
      obtain ⟨q, hq⟩ : ∃ q, drawR per [b0, b1, b2, b3, b4, b5] es i0 i1 i2 = q := ⟨_, rfl⟩
      rw [hq]
      have HQ := Lib.hid hq
      clear hq
      go_wp2_with fail
      have hd := rdraw_walk per b0 b1 b2 b3 b4 b5 A n c es i0 i1 i2 w3 ((hE.below hb5).more hb5.size) HN.out (by omega) HER.out
      rw [HQ.out] at hd
      refine hd.mono ?_
      clear hd
      rintro e w4 ⟨rfl, hb6⟩
      have hb7 := hb5.trans (hb6.mono hb5.size)
      go_wp2
      go_ret
      exact ⟨rfl, hb7⟩
    · have hz : drawP per [b0, b1, b2, b3, b4, b5] es i0 i1 i2 = 0 := if_neg (by rw [HER.out]; exact he)
      rw [hz]
      clear hz
      have hne : (er == 0) = false := by simpa using he
      have hne2 : (er != 0) = true := by simpa using he
      have HEN := Lib.hid he
      clear he
      go_wp2_with fail
      refine (num_any er _).mono ?_
      rintro e w4 ⟨rfl, rfl⟩
      go_wp2
      go_ret
      exact ⟨rfl, hb5⟩

end Go.Proofs.Ytgnojdiecgfeaaa
