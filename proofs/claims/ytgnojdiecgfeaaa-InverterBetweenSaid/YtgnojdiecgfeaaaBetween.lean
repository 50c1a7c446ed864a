/- The walk of the statement InverterBetween. -/
import Derived.Test.YtgnojdiecgfeaaaPlainD
import Derived.Test.YtgnojdiecgfeaaaAwakeI
namespace Go.Proofs.Ytgnojdiecgfeaaa
open Go.RowKit

set_option maxRecDepth 100000 in
set_option maxHeartbeats 3200000 in
theorem inverterBetween_walk (per : Int) (b0 b1 b2 b3 b4 b5 : Bool) (A : Option Addr) (n c : Nat) (es : List Ed) (i0 i1 i2 k0 : Int) (w : World) (hE : Sl w w.heap.size 3 A (es.map Ed.row)) (hn : n = es.length) :
    Calls Try.prog 15 #[.agg #[.int .i64 per, .bool b0, .bool b1, .bool b2, .bool b3, .bool b4, .bool b5, .slice A n c], .agg #[.int .i64 i0, .int .i64 i1, .int .i64 i2], .int .i64 k0] w fun e w' => e = .returned (.bool true) ∧ Below w.heap.size w w' := by
  have HN := Lib.hid hn
  clear hn
  have hb0 := ((Below.refl w.heap.size w).alloc (Nat.le_refl _) (.cells #[.int .i64 per, .bool b0, .bool b1, .bool b2, .bool b3, .bool b4, .bool b5, .slice A n c] 25)).alloc (by simp) (.cells #[.int .i64 i0, .int .i64 i1, .int .i64 i2] 26)
  have g0 := (Blk.new w 25 #[.int .i64 per, .bool b0, .bool b1, .bool b2, .bool b3, .bool b4, .bool b5, .slice A n c]).alloc (.cells #[.int .i64 i0, .int .i64 i1, .int .i64 i2] 26)
  have g1 := Blk.new' (w := w.alloc (.cells #[.int .i64 per, .bool b0, .bool b1, .bool b2, .bool b3, .bool b4, .bool b5, .slice A n c] 25)) (t := 26) (cs := #[.int .i64 i0, .int .i64 i1, .int .i64 i2]) (g := w.heap.size + 1) (by simp)
  by_cases hbig : 500 < n
  · go_enter Try.func15, Try.ntmps15
    go_wp2_with fail
    refine (awake_walk _).mono ?_
    rintro e w1 ⟨rfl, hb1⟩
    have hbb := hb0.trans (hb1.mono (by simp; omega))
    obtain ⟨x0, x1, x2, x3, x4, x5, x6, x7⟩ := (g0.below hb1 g0.lt).c8
    clear hb0 g0 g1 hb1
    go_wp2_with fail
    refine (awake_walk _).mono ?_
    rintro e w2 ⟨rfl, hb2⟩
    have hbc := hbb.trans (hb2.mono hbb.size)
    go_wp2
    go_ret
    exact ⟨rfl, hbc⟩
  · obtain ⟨k, hk⟩ : ∃ z, lnk k0 = z := ⟨_, rfl⟩
    obtain ⟨er, her⟩ : ∃ er, err per [b0, b1, b2, b3, b4, b5] es = er := ⟨_, rfl⟩
    obtain ⟨h0, eh0⟩ : ∃ z, hgh per [b0, b1, b2, b3, b4, b5] es 0 i0 = z := ⟨_, rfl⟩
    obtain ⟨h1, eh1⟩ : ∃ z, hgh per [b0, b1, b2, b3, b4, b5] es 1 i1 = z := ⟨_, rfl⟩
    obtain ⟨h2, eh2⟩ : ∃ z, hgh per [b0, b1, b2, b3, b4, b5] es 2 i2 = z := ⟨_, rfl⟩
    obtain ⟨v0, ev0⟩ : ∃ z, voltP per [b0, b1, b2, b3, b4, b5] es 0 i0 k = z := ⟨_, rfl⟩
    obtain ⟨v1, ev1⟩ : ∃ z, voltP per [b0, b1, b2, b3, b4, b5] es 1 i1 k = z := ⟨_, rfl⟩
    obtain ⟨v2, ev2⟩ : ∃ z, voltP per [b0, b1, b2, b3, b4, b5] es 2 i2 k = z := ⟨_, rfl⟩
    obtain ⟨q00, eq00⟩ : ∃ z, tms per [b0, b1, b2, b3, b4, b5] es 0 0 = z := ⟨_, rfl⟩
    obtain ⟨q01, eq01⟩ : ∃ z, tms per [b0, b1, b2, b3, b4, b5] es 0 1 = z := ⟨_, rfl⟩
    obtain ⟨q02, eq02⟩ : ∃ z, tms per [b0, b1, b2, b3, b4, b5] es 0 2 = z := ⟨_, rfl⟩
    obtain ⟨q10, eq10⟩ : ∃ z, tms per [b0, b1, b2, b3, b4, b5] es 1 0 = z := ⟨_, rfl⟩
    obtain ⟨q11, eq11⟩ : ∃ z, tms per [b0, b1, b2, b3, b4, b5] es 1 1 = z := ⟨_, rfl⟩
    obtain ⟨q12, eq12⟩ : ∃ z, tms per [b0, b1, b2, b3, b4, b5] es 1 2 = z := ⟨_, rfl⟩
    obtain ⟨q20, eq20⟩ : ∃ z, tms per [b0, b1, b2, b3, b4, b5] es 2 0 = z := ⟨_, rfl⟩
    obtain ⟨q21, eq21⟩ : ∃ z, tms per [b0, b1, b2, b3, b4, b5] es 2 1 = z := ⟨_, rfl⟩
    obtain ⟨q22, eq22⟩ : ∃ z, tms per [b0, b1, b2, b3, b4, b5] es 2 2 = z := ⟨_, rfl⟩
    have hhi := fun (w1 : World) (hE' : Sl w1 w1.heap.size 3 A (es.map Ed.row)) => high_walk per b0 b1 b2 b3 b4 b5 A n c es i0 i1 i2 w1 hE' HN.out (by omega)
    have hvo := fun (w1 : World) (hE' : Sl w1 w1.heap.size 3 A (es.map Ed.row)) => volts_walk per b0 b1 b2 b3 b4 b5 A n c es i0 i1 i2 k w1 hE' HN.out (by omega)
    have hti := fun (w1 : World) (hE' : Sl w1 w1.heap.size 3 A (es.map Ed.row)) => times_walk per b0 b1 b2 b3 b4 b5 A n c es w1 hE' HN.out (by omega)
    simp only [her, eh0, eh1, eh2, ev0, ev1, ev2, eq00, eq01, eq02, eq10, eq11, eq12, eq20, eq21, eq22] at hhi hvo hti
    have HHI := hide hhi
    have HVO := hide hvo
    have HTI := hide hti
    have HER := Lib.hid her
    have HK := Lib.hid hk
    have HH0 := Lib.hid eh0
    have HH1 := Lib.hid eh1
    have HH2 := Lib.hid eh2
    have HV0 := Lib.hid ev0
    have HV1 := Lib.hid ev1
    have HV2 := Lib.hid ev2
    have HQ00 := Lib.hid eq00
    have HQ01 := Lib.hid eq01
    have HQ02 := Lib.hid eq02
    have HQ10 := Lib.hid eq10
    have HQ11 := Lib.hid eq11
    have HQ12 := Lib.hid eq12
    have HQ20 := Lib.hid eq20
    have HQ21 := Lib.hid eq21
    have HQ22 := Lib.hid eq22
    clear hhi hvo hti her hk eh0 eh1 eh2 ev0 ev1 ev2 eq00 eq01 eq02 eq10 eq11 eq12 eq20 eq21 eq22
    go_enter Try.func15, Try.ntmps15
    go_wp2_with fail
    refine (awake_walk _).mono ?_
    rintro e w1 ⟨rfl, hb1⟩
    have hb2 := hb0.trans (hb1.mono (by simp; omega))
    have g01 := g0.below hb1 g0.lt
    have g11 := g1.below hb1 g1.lt
    clear hb0 g0 g1 hb1
    obtain ⟨x0, x1, x2, x3, x4, x5, x6, x7⟩ := g01.c8
    obtain ⟨u0, u1, u2⟩ := g11.c3
    go_wp2_with fail
    refine (clip_b k0 0 1048576 (by omega) _).mono ?_
    rintro e w2 ⟨rfl, rfl⟩
    rw [show clipI k0 0 1048576 = k from HK.out]
    go_wp2_with fail
    refine ((unhide HHI) w1 ((hE.below hb2).more hb2.size)).mono ?_
    rintro e w2 ⟨rfl, hb3⟩
    have hb4 := (hb2.trans (hb3.mono hb2.size)).alloc (hb2.trans (hb3.mono hb2.size)).size (.cells #[.int .i64 h0, .int .i64 h1, .int .i64 h2] 26)
    have g02 := (g01.below hb3 g01.lt).alloc (.cells #[.int .i64 h0, .int .i64 h1, .int .i64 h2] 26)
    have g12 := (g11.below hb3 g11.lt).alloc (.cells #[.int .i64 h0, .int .i64 h1, .int .i64 h2] 26)
    have g22 := Blk.new w2 26 #[.int .i64 h0, .int .i64 h1, .int .i64 h2]
    have hsz2 := hb3.size
    have l0 := g01.lt
    have l1 := g11.lt
    have l2 : w.heap.size < w2.heap.size := by omega
    have l3 : w.heap.size + 1 < w2.heap.size := by omega
    clear hb2 hb3 x0 x1 x2 x3 x4 x5 x6 x7 u0 u1 u2 g01 g11
    obtain ⟨x0, x1, x2, x3, x4, x5, x6, x7⟩ := g02.c8
    obtain ⟨u0, u1, u2⟩ := g12.c3
    go_wp2_with fail
    refine ((unhide HVO) _ ((hE.below hb4).more hb4.size)).mono ?_
    rintro e w3 ⟨rfl, hb3⟩
    have hb5 := (hb4.trans (hb3.mono hb4.size)).alloc (hb4.trans (hb3.mono hb4.size)).size (.cells #[.int .i64 v0, .int .i64 v1, .int .i64 v2] 26)
    have g03 := (g02.below hb3 g02.lt).alloc (.cells #[.int .i64 v0, .int .i64 v1, .int .i64 v2] 26)
    have g23 := (g22.below hb3 g22.lt).alloc (.cells #[.int .i64 v0, .int .i64 v1, .int .i64 v2] 26)
    have g33 := Blk.new w3 26 #[.int .i64 v0, .int .i64 v1, .int .i64 v2]
    have hsz3 := hb3.size
    simp only [World.size_alloc] at hsz3
    have l4 : w.heap.size < w3.heap.size := by omega
    have l6 : w2.heap.size < w3.heap.size := by omega
    clear hb4 hb3 x0 x1 x2 x3 x4 x5 x6 x7 u0 u1 u2 g02 g12 g22
    obtain ⟨x0, x1, x2, x3, x4, x5, x6, x7⟩ := g03.c8
    by_cases he : er = 0
    · subst he
      have hc0 := (err_ok HER.out).1
      have HC0 := Lib.hid hc0
      clear hc0
      rw [errV_zero]
      go_wp2_with fail
      refine ((unhide HTI) _ ((hE.below hb5).more hb5.size)).mono ?_
      rintro e w4 ⟨rfl, hb3⟩
      rw [HC0.out, errV_zero]
      have hb6 := (hb5.trans (hb3.mono hb5.size)).alloc (hb5.trans (hb3.mono hb5.size)).size (.cells #[.int .i64 q00, .int .i64 q01, .int .i64 q02, .int .i64 q10, .int .i64 q11, .int .i64 q12, .int .i64 q20, .int .i64 q21, .int .i64 q22] 66)
      have g04 := (g03.below hb3 g03.lt).alloc (.cells #[.int .i64 q00, .int .i64 q01, .int .i64 q02, .int .i64 q10, .int .i64 q11, .int .i64 q12, .int .i64 q20, .int .i64 q21, .int .i64 q22] 66)
      have g24 := (g23.below hb3 g23.lt).alloc (.cells #[.int .i64 q00, .int .i64 q01, .int .i64 q02, .int .i64 q10, .int .i64 q11, .int .i64 q12, .int .i64 q20, .int .i64 q21, .int .i64 q22] 66)
      have g34 := (g33.below hb3 g33.lt).alloc (.cells #[.int .i64 q00, .int .i64 q01, .int .i64 q02, .int .i64 q10, .int .i64 q11, .int .i64 q12, .int .i64 q20, .int .i64 q21, .int .i64 q22] 66)
      have g44 := Blk.new w4 66 #[.int .i64 q00, .int .i64 q01, .int .i64 q02, .int .i64 q10, .int .i64 q11, .int .i64 q12, .int .i64 q20, .int .i64 q21, .int .i64 q22]
      clear hb5 hb3 g03 g23 g33 x0 x1 x2 x3 x4 x5 x6 x7
      have hper := chk_zero HC0.out
      obtain ⟨hp1, hp2, _⟩ := hper
      have ge0 : q00 ≤ h0 := by rw [← HH0.out, ← HQ00.out]; exact high_ge HER.out
      have le0 : h0 ≤ per - q01 := by rw [← HH0.out, ← HQ01.out]; exact high_le HER.out (by omega)
      have eq0 : Hid (q02 = 0 → h0 = q00) := by intro hz; rw [← HH0.out, ← HQ00.out]; exact high_eq0 HER.out (by rw [HQ02.out]; exact hz)
      have vl0 : 0 ≤ v0 := by rw [← HV0.out]; exact voltP_bd.1
      have vu0 : v0 ≤ k := by have := volt_le (leg := 0) (cur := i0) (k := k) HER.out (by omega); rw [HV0.out, ← HK.out, lnk_idem, HK.out] at this; exact this
      have tb0 := @tms_bd per [b0, b1, b2, b3, b4, b5] es 0 1
      rw [HQ01.out] at tb0
      obtain ⟨tb0l, tb0u⟩ := tb0
      have ge1 : q10 ≤ h1 := by rw [← HH1.out, ← HQ10.out]; exact high_ge HER.out
      have le1 : h1 ≤ per - q11 := by rw [← HH1.out, ← HQ11.out]; exact high_le HER.out (by omega)
      have eq1 : Hid (q12 = 0 → h1 = q10) := by intro hz; rw [← HH1.out, ← HQ10.out]; exact high_eq0 HER.out (by rw [HQ12.out]; exact hz)
      have vl1 : 0 ≤ v1 := by rw [← HV1.out]; exact voltP_bd.1
      have vu1 : v1 ≤ k := by have := volt_le (leg := 1) (cur := i1) (k := k) HER.out (by omega); rw [HV1.out, ← HK.out, lnk_idem, HK.out] at this; exact this
      have tb1 := @tms_bd per [b0, b1, b2, b3, b4, b5] es 1 1
      rw [HQ11.out] at tb1
      obtain ⟨tb1l, tb1u⟩ := tb1
      have ge2 : q20 ≤ h2 := by rw [← HH2.out, ← HQ20.out]; exact high_ge HER.out
      have le2 : h2 ≤ per - q21 := by rw [← HH2.out, ← HQ21.out]; exact high_le HER.out (by omega)
      have eq2 : Hid (q22 = 0 → h2 = q20) := by intro hz; rw [← HH2.out, ← HQ20.out]; exact high_eq0 HER.out (by rw [HQ22.out]; exact hz)
      have vl2 : 0 ≤ v2 := by rw [← HV2.out]; exact voltP_bd.1
      have vu2 : v2 ≤ k := by have := volt_le (leg := 2) (cur := i2) (k := k) HER.out (by omega); rw [HV2.out, ← HK.out, lnk_idem, HK.out] at this; exact this
      have tb2 := @tms_bd per [b0, b1, b2, b3, b4, b5] es 2 1
      rw [HQ21.out] at tb2
      obtain ⟨tb2l, tb2u⟩ := tb2
      go_wp2
      go_loopw [13] (fun i wr => (i = .int .i64 0 ∨ i = .int .i64 1 ∨ i = .int .i64 2 ∨ i = .int .i64 3) ∧ Blk wr w.heap.size 25 #[.int .i64 per, .bool b0, .bool b1, .bool b2, .bool b3, .bool b4, .bool b5, .slice A n c] ∧ Blk wr w2.heap.size 26 #[.int .i64 h0, .int .i64 h1, .int .i64 h2] ∧ Blk wr w3.heap.size 26 #[.int .i64 v0, .int .i64 v1, .int .i64 v2] ∧ Blk wr w4.heap.size 66 #[.int .i64 q00, .int .i64 q01, .int .i64 q02, .int .i64 q10, .int .i64 q11, .int .i64 q12, .int .i64 q20, .int .i64 q21, .int .i64 q22] ∧ Below w.heap.size w wr) (fun i _ => 3 - (intOf i).toNat)
      case atStart => exact ⟨.inl rfl, g04, g24, g34, g44, hb6⟩
      case round =>
        clear g04 g24 g34 g44 hb6
        obtain ⟨hd, g3, gh, gv, gt, hb⟩ := hrel
        obtain ⟨x0, x1, x2, x3, x4, x5, x6, x7⟩ := g3.c8
        obtain ⟨y0, y1, y2⟩ := gh.c3
        obtain ⟨z0, z1, z2⟩ := gv.c3
        obtain ⟨t0, t1, t2, t3, t4, t5, t6, t7, t8⟩ := gt.c9
        rcases hd with rfl | rfl | rfl | rfl
        · have d1 : decide (h0 < q00) = false := by simpa using ge0
          have ew : IntKind.i64.wrap (per - q01) = per - q01 := IntWalk.i64_in _ (by omega)
          have d2 : decide (per - q01 < h0) = false := by simpa using le0
          have d4 : decide (v0 < 0) = false := by simpa using vl0
          have d5 : decide (k < v0) = false := by simpa using vu0
          by_cases hz : q02 = 0
          · have d3 : (q02 == 0) = true := by simpa using hz
            have d6 : (h0 != q00) = false := by have := eq0.out hz; simpa using this
            have HZ := Lib.hid hz
            clear hz
            go_wp2
            go_quiet (fail)
            go_wp2
            go_roundw
            case rel => exact ⟨.inr (.inl rfl), g3.drewN nq, gh.drewN nq, gv.drewN nq, gt.drewN nq, below_drewN hb nq⟩
            case measure => simp [intOf]
          · have d3 : (q02 == 0) = false := by simpa using hz
            clear hz
            go_wp2
            go_quiet (fail)
            go_wp2
            go_roundw
            case rel => exact ⟨.inr (.inl rfl), g3.drewN nq, gh.drewN nq, gv.drewN nq, gt.drewN nq, below_drewN hb nq⟩
            case measure => simp [intOf]
        · have d1 : decide (h1 < q10) = false := by simpa using ge1
          have ew : IntKind.i64.wrap (per - q11) = per - q11 := IntWalk.i64_in _ (by omega)
          have d2 : decide (per - q11 < h1) = false := by simpa using le1
          have d4 : decide (v1 < 0) = false := by simpa using vl1
          have d5 : decide (k < v1) = false := by simpa using vu1
          by_cases hz : q12 = 0
          · have d3 : (q12 == 0) = true := by simpa using hz
            have d6 : (h1 != q10) = false := by have := eq1.out hz; simpa using this
            have HZ := Lib.hid hz
            clear hz
            go_wp2
            go_quiet (fail)
            go_wp2
            go_roundw
            case rel => exact ⟨.inr (.inr (.inl rfl)), g3.drewN nq, gh.drewN nq, gv.drewN nq, gt.drewN nq, below_drewN hb nq⟩
            case measure => simp [intOf]
          · have d3 : (q12 == 0) = false := by simpa using hz
            clear hz
            go_wp2
            go_quiet (fail)
            go_wp2
            go_roundw
            case rel => exact ⟨.inr (.inr (.inl rfl)), g3.drewN nq, gh.drewN nq, gv.drewN nq, gt.drewN nq, below_drewN hb nq⟩
            case measure => simp [intOf]
        · have d1 : decide (h2 < q20) = false := by simpa using ge2
          have ew : IntKind.i64.wrap (per - q21) = per - q21 := IntWalk.i64_in _ (by omega)
          have d2 : decide (per - q21 < h2) = false := by simpa using le2
          have d4 : decide (v2 < 0) = false := by simpa using vl2
          have d5 : decide (k < v2) = false := by simpa using vu2
          by_cases hz : q22 = 0
          · have d3 : (q22 == 0) = true := by simpa using hz
            have d6 : (h2 != q20) = false := by have := eq2.out hz; simpa using this
            have HZ := Lib.hid hz
            clear hz
            go_wp2
            go_quiet (fail)
            go_wp2
            go_roundw
            case rel => exact ⟨.inr (.inr (.inr rfl)), g3.drewN nq, gh.drewN nq, gv.drewN nq, gt.drewN nq, below_drewN hb nq⟩
            case measure => simp [intOf]
          · have d3 : (q22 == 0) = false := by simpa using hz
            clear hz
            go_wp2
            go_quiet (fail)
            go_wp2
            go_roundw
            case rel => exact ⟨.inr (.inr (.inr rfl)), g3.drewN nq, gh.drewN nq, gv.drewN nq, gt.drewN nq, below_drewN hb nq⟩
            case measure => simp [intOf]
        · go_wp2
          go_ret
          exact ⟨rfl, hb⟩
    · have hne2 : (er != 0) = true := by simpa using he
      have HE := Lib.hid he
      rw [errV_ne he]
      clear he
      go_wp2_with fail
      refine (num_iface er _).mono ?_
      rintro e w6 ⟨rfl, rfl⟩
      go_wp2_with fail
      refine (num_iface er _).mono ?_
      rintro e w6 ⟨rfl, rfl⟩
      go_wp2
      go_ret
      exact ⟨by simp, hb5⟩

end Go.Proofs.Ytgnojdiecgfeaaa
