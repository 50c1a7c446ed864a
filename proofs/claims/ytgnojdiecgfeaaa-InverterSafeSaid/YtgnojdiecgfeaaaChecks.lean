/- The walks of Short and of the statement InverterChecks. -/
import Derived.Test.YtgnojdiecgfeaaaAwakeI
namespace Go.Proofs.Ytgnojdiecgfeaaa
open Go.RowKit

def shrt (per : Int) (on : List Bool) (es : List Ed) : Bool := if chk per es = 0 then shortR per on es else false
theorem shrt_ok {per : Int} {on : List Bool} {es : List Ed} (h : chk per es = 0) : shrt per on es = shortR per on es := if_pos h
theorem shrt_no {per : Int} {on : List Bool} {es : List Ed} (h : chk per es ≠ 0) : shrt per on es = false := if_neg h

set_option maxHeartbeats 800000 in
theorem short_walk (per : Int) (b0 b1 b2 b3 b4 b5 : Bool) (A : Option Addr) (n c : Nat) (es : List Ed) (w : World) (hE : Sl w w.heap.size 3 A (es.map Ed.row)) (hn : n = es.length) (hm : n ≤ 1000000) :
    Calls Try.prog 27 #[.agg #[.int .i64 per, .bool b0, .bool b1, .bool b2, .bool b3, .bool b4, .bool b5, .slice A n c]] w fun e w' =>
      e = .returned (.tuple #[.bool (shrt per [b0, b1, b2, b3, b4, b5] es), errV (chk per es)]) ∧ Below w.heap.size w w' := by
  have HN := Lib.hid hn
  clear hn
  have hb0 := (Below.refl w.heap.size w).alloc (Nat.le_refl _) (.cells #[.int .i64 per, .bool b0, .bool b1, .bool b2, .bool b3, .bool b4, .bool b5, .slice A n c] 25)
  have g0 := Blk.new w 25 #[.int .i64 per, .bool b0, .bool b1, .bool b2, .bool b3, .bool b4, .bool b5, .slice A n c]
  have hck := chk_walk per b0 b1 b2 b3 b4 b5 A n c es _ ((hE.below hb0).more hb0.size) HN.out hm
  by_cases hc : chk per es = 0
  · obtain ⟨hp1, hp2, hv⟩ := chk_zero hc
    rw [hc, errV_zero] at hck
    have HC := hide hck
    have H0 := Lib.hid hc
    clear hck hc
    go_enter Try.func27, Try.ntmps27
    go_wp2_with fail
    refine (unhide HC).mono ?_
    rintro e w1 ⟨rfl, hb1⟩
    have hb2 := hb0.trans (hb1.mono hb0.size)
    have g01 := g0.below hb1 g0.lt
    obtain ⟨x0, x1, x2, x3, x4, x5, x6, x7⟩ := g01.c8
    obtain ⟨sp, hsp⟩ : ∃ sp, spansOf per [b0, b1, b2, b3, b4, b5] es = sp := ⟨_, rfl⟩
    have hrows := spans_rows (on := [b0, b1, b2, b3, b4, b5]) hv hp1 rfl
    have hmem := spans_mem (on := [b0, b1, b2, b3, b4, b5]) hv hp1
    have hsw := spans_walk per b0 b1 b2 b3 b4 b5 A n c es w1 ((hE.below hb2).more hb2.size) HN.out hm hv hp1 hp2
    have hsplen := spans_length (per := per) (on := [b0, b1, b2, b3, b4, b5]) (es := es)
    have hserr := short_eq (on := [b0, b1, b2, b3, b4, b5]) H0.out
    rw [hsp] at hrows hmem hsw hsplen hserr
    have HSW := hide hsw
    have HM := Lib.hid hmem
    have HR := Lib.hid hrows
    have hspl : sp.length ≤ 1000001 := by have := HN.out; omega
    have HSE := Lib.hid hserr
    clear hb0 hb1 g0 HC hsw hmem hrows hsp hsplen hserr
    go_wp2_with fail
    refine (unhide HSW).mono ?_
    rintro e w2 ⟨v, rfl, hown, hb3⟩
    obtain ⟨A', c', rfl, hS, _⟩ := Sl.of_own hown HR.out (by simp)
    have hb4 := hb2.trans (hb3.mono hb2.size)
    clear hb3 hb2 x0 x1 x2 x3 x4 x5 x6 x7 hown HSW
    go_wp2_with fail
    refine (shorted_walk A' sp.length c' sp w2 hS rfl hspl (fun x hx => (HM.out x hx).2)).mono ?_
    rintro e w3 ⟨rfl, hb5⟩
    have hb6 := hb4.trans (hb5.mono hb4.size)
    rw [HSE.out]
    go_wp2
    go_ret2
    exact ⟨by rw [H0.out, errV_zero, shrt_ok H0.out]; rfl, hb6⟩
  · have H0 := Lib.hid hc
    rw [errV_ne hc] at hck
    have HC := hide hck
    clear hck hc
    go_enter Try.func27, Try.ntmps27
    go_wp2_with fail
    refine (unhide HC).mono ?_
    rintro e w1 ⟨rfl, hb1⟩
    have hb2 := hb0.trans (hb1.mono hb0.size)
    go_wp2
    go_ret2
    exact ⟨by rw [errV_ne H0.out, shrt_no H0.out]; rfl, hb2⟩

set_option maxHeartbeats 1600000 in
theorem inverterChecks_walk (per : Int) (b0 b1 b2 b3 b4 b5 : Bool) (A : Option Addr) (n c : Nat) (es : List Ed) (w : World) (hE : Sl w w.heap.size 3 A (es.map Ed.row)) (hn : n = es.length) :
    Calls Try.prog 5 #[.agg #[.int .i64 per, .bool b0, .bool b1, .bool b2, .bool b3, .bool b4, .bool b5, .slice A n c]] w fun e w' => e = .returned (.bool true) ∧ Below w.heap.size w w' := by
  have HN := Lib.hid hn
  clear hn
  have hb0 := (Below.refl w.heap.size w).alloc (Nat.le_refl _) (.cells #[.int .i64 per, .bool b0, .bool b1, .bool b2, .bool b3, .bool b4, .bool b5, .slice A n c] 25)
  have g0 := Blk.new w 25 #[.int .i64 per, .bool b0, .bool b1, .bool b2, .bool b3, .bool b4, .bool b5, .slice A n c]
  by_cases hbig : 500 < n
  · go_enter Try.func5, Try.ntmps5
    go_wp2_with fail
    refine (awake_walk _).mono ?_
    rintro e w1 ⟨rfl, hb1⟩
    have hbb := hb0.trans (hb1.mono hb0.size)
    obtain ⟨x0, x1, x2, x3, x4, x5, x6, x7⟩ := (g0.below hb1 g0.lt).c8
    clear hb0 g0 hb1
    go_wp2_with fail
    refine (awake_walk _).mono ?_
    rintro e w2 ⟨rfl, hb2⟩
    have hbc := hbb.trans (hb2.mono hbb.size)
    go_wp2
    go_ret
    exact ⟨rfl, hbc⟩
  · obtain ⟨ck, hck⟩ : ∃ ck, chk per es = ck := ⟨_, rfl⟩
    have HC := Lib.hid hck
    clear hck
    go_enter Try.func5, Try.ntmps5
    go_wp2_with fail
    refine (awake_walk _).mono ?_
    rintro e w1 ⟨rfl, hb1⟩
    have hb2 := hb0.trans (hb1.mono hb0.size)
    have g01 := g0.below hb1 g0.lt
    clear hb0 g0 hb1
    obtain ⟨x0, x1, x2, x3, x4, x5, x6, x7⟩ := g01.c8
    go_wp2_with fail
    have hd := rchk_walk per b0 b1 b2 b3 b4 b5 A n c es w1 ((hE.below hb2).more hb2.size) HN.out (by omega)
    rw [HC.out] at hd
    refine hd.mono ?_
    clear hd
    rintro e w2 ⟨rfl, hb3⟩
    have hb4 := hb2.trans (hb3.mono hb2.size)
    have g02 := g01.below hb3 g01.lt
    clear hb2 hb3 g01 x0 x1 x2 x3 x4 x5 x6 x7
    obtain ⟨x0, x1, x2, x3, x4, x5, x6, x7⟩ := g02.c8
    go_wp2_with fail
    have hd := short_walk per b0 b1 b2 b3 b4 b5 A n c es w2 ((hE.below hb4).more hb4.size) HN.out (by omega)
    obtain ⟨sh, hsh⟩ : ∃ sh, shrt per [b0, b1, b2, b3, b4, b5] es = sh := ⟨_, rfl⟩
    have HSH := Lib.hid hsh
    rw [HC.out, hsh] at hd
    clear hsh
    refine hd.mono ?_
    clear hd
    rintro e w3 ⟨rfl, hb3⟩
    have hb5 := hb4.trans (hb3.mono hb4.size)
    have g03 := g02.below hb3 g02.lt
    clear hb4 hb3 g02 x0 x1 x2 x3 x4 x5 x6 x7
    obtain ⟨x0, x1, x2, x3, x4, x5, x6, x7⟩ := g03.c8
    go_wp2_with fail
    have hd := chk_walk per b0 b1 b2 b3 b4 b5 A n c es w3 ((hE.below hb5).more hb5.size) HN.out (by omega)
    rw [HC.out] at hd
    refine hd.mono ?_
    clear hd
    rintro e w4 ⟨rfl, hb3⟩
    have hb6 := hb5.trans (hb3.mono hb5.size)
    have g04 := g03.below hb3 g03.lt
    clear hb5 hb3 g03 x0 x1 x2 x3 x4 x5 x6 x7
    obtain ⟨x0, x1, x2, x3, x4, x5, x6, x7⟩ := g04.c8
    have hbe : (ck != ck) = false := by simp
    go_wp2_with fail
    refine (num_any ck _).mono ?_
    rintro e w5 ⟨rfl, rfl⟩
    go_wp2_with fail
    refine (num_any ck _).mono ?_
    rintro e w5 ⟨rfl, rfl⟩
    by_cases h0 : ck = 0
    · subst h0
      go_wp2_with fail
      have hd := rshort_walk per b0 b1 b2 b3 b4 b5 A n c es w4 ((hE.below hb6).more hb6.size) HN.out (by omega) HC.out
      rw [← shrt_ok HC.out, HSH.out] at hd
      refine hd.mono ?_
      clear hd
      rintro e w5 ⟨rfl, hb3⟩
      have hb7 := hb6.trans (hb3.mono hb6.size)
      go_wp2
      go_ret
      exact ⟨by simp, hb7⟩
    · have hne : (ck == 0) = false := by simpa using h0
      obtain rfl : sh = false := by
        rw [← HSH.out]; exact shrt_no (by rw [HC.out]; exact h0)
      clear h0
      go_wp2
      go_ret
      exact ⟨rfl, hb6⟩

end Go.Proofs.Ytgnojdiecgfeaaa
