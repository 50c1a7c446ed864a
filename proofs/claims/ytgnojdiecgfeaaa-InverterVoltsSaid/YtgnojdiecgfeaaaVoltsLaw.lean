/- The walk of the statement InverterVolts. -/
import Derived.Test.YtgnojdiecgfeaaaVector
import Derived.Test.YtgnojdiecgfeaaaAwakeI
import Derived.Deep.RegionHeld3
import Derived.ChangeKeysEq
namespace Go.Proofs.Ytgnojdiecgfeaaa
open Go.RowKit

theorem Try.infoInt : (Try.prog.info? 3).map (fun i => (i.zero, i.size, i.bytes)) = some (some (.int .i64 0), 1, 8) := by kernel_rfl
theorem Try.cellsInt' : Try.prog.cellsOf 3 = 1 := by kernel_rfl
set_option maxRecDepth 100000 in
theorem eq_ints3 (a b c a' b' c' : Int) (w : World) : (binOp .eql 26 (.agg #[.int .i64 a, .int .i64 b, .int .i64 c]) (.agg #[.int .i64 a', .int .i64 b', .int .i64 c'])).run Try.prog w = .ok (.bool (a == a' && (b == b' && c == c'))) w := by
  obtain ⟨i0, hi, hz0, hz1, hz2⟩ := info_parts Try.infoInt
  rw [run_eql_struct, show (10000 : Nat) = 9999 + 1 from rfl, run_equalIn_array _ 9999 _ _ Try.underlying26 hi, Try.cellsInt']
  have h1 := fun (x y : Int) (w : World) => run_equalIn_int (P := Try.prog) w 9998 3 .i64 .i64 x y Try.underlying3
  simp only [Nat.reduceAdd] at h1
  have hr : List.range 3 = [0, 1, 2] := by decide
  rw [hr]
  by_cases e0 : a = a' <;> by_cases e1 : b = b' <;> by_cases e2 : c = c' <;> simp [Op.eqItems, go_sem, h1, e0, e1, e2]

/-- The five variables of the statement in memory, and what was there before. -/
structure VS (w0 w : World) (B C D E F : Nat) (gs cs hs vs xs : Array Value) : Prop where
  g : Blk w B 25 gs
  c : Blk w C 26 cs
  h : Blk w D 26 hs
  v : Blk w E 26 vs
  x : Blk w F 73 xs
  b : Below w0.heap.size w0 w
theorem VS.below {w0 w w' : World} {B C D E F : Nat} {gs cs hs vs xs : Array Value} (h : VS w0 w B C D E F gs cs hs vs xs) (hb : Below w.heap.size w w') : VS w0 w' B C D E F gs cs hs vs xs :=
  ⟨h.g.below hb h.g.lt, h.c.below hb h.c.lt, h.h.below hb h.h.lt, h.v.below hb h.v.lt, h.x.below hb h.x.lt, h.b.trans (hb.mono h.b.size)⟩
theorem VS.drew {w0 w : World} {B C D E F : Nat} {gs cs hs vs xs : Array Value} (h : VS w0 w B C D E F gs cs hs vs xs) : VS w0 w.drew B C D E F gs cs hs vs xs :=
  ⟨h.g, h.c, h.h, h.v, h.x, h.b.drew⟩

theorem VS.sl {w0 w : World} {B C D E F : Nat} {gs cs hs vs xs : Array Value} {A : Option Addr} {size : Nat} {rs : List (List Value)} (hE : Sl w0 w0.heap.size size A rs) (h : VS w0 w B C D E F gs cs hs vs xs) : Sl w w.heap.size size A rs := (hE.below h.b).more h.b.size
theorem VS.sl' {R : Prop} {w0 w : World} {B C D E F : Nat} {gs cs hs vs xs : Array Value} {A : Option Addr} {size : Nat} {rs : List (List Value)} (hE : Sl w0 w0.heap.size size A rs) (h : VS w0 w B C D E F gs cs hs vs xs ∧ R) : Sl w w.heap.size size A rs := VS.sl hE h.1
theorem VS.below' {R : Prop} {w0 w w' : World} {B C D E F : Nat} {gs cs hs vs xs : Array Value} (hb : Below w.heap.size w w') (h : VS w0 w B C D E F gs cs hs vs xs ∧ R) : VS w0 w' B C D E F gs cs hs vs xs := h.1.below hb
theorem VS.b' {R : Prop} {w0 w : World} {B C D E F : Nat} {gs cs hs vs xs : Array Value} (h : VS w0 w B C D E F gs cs hs vs xs ∧ R) : Below w0.heap.size w0 w := h.1.b
theorem VS.all {w0 w' : World} {B C D E F : Nat} {per i0 i1 i2 h0 h1 h2 v0 v1 v2 fa fb : Int} {b0 b1 b2 b3 b4 b5 : Bool} {A : Option Addr} {n c : Nat} (h : VS w0 w' B C D E F #[.int .i64 per, .bool b0, .bool b1, .bool b2, .bool b3, .bool b4, .bool b5, .slice A n c] #[.int .i64 i0, .int .i64 i1, .int .i64 i2] #[.int .i64 h0, .int .i64 h1, .int .i64 h2] #[.int .i64 v0, .int .i64 v1, .int .i64 v2] #[.int .i64 fa, .int .i64 fb]) :
    VS w0 w' B C D E F #[.int .i64 per, .bool b0, .bool b1, .bool b2, .bool b3, .bool b4, .bool b5, .slice A n c] #[.int .i64 i0, .int .i64 i1, .int .i64 i2] #[.int .i64 h0, .int .i64 h1, .int .i64 h2] #[.int .i64 v0, .int .i64 v1, .int .i64 v2] #[.int .i64 fa, .int .i64 fb] ∧ w'.cell? ⟨B, 0, none⟩ = some (.int .i64 per) ∧ w'.cell? ⟨B, 1, none⟩ = some (.bool b0) ∧ w'.cell? ⟨B, 2, none⟩ = some (.bool b1) ∧ w'.cell? ⟨B, 3, none⟩ = some (.bool b2) ∧ w'.cell? ⟨B, 4, none⟩ = some (.bool b3) ∧ w'.cell? ⟨B, 5, none⟩ = some (.bool b4) ∧ w'.cell? ⟨B, 6, none⟩ = some (.bool b5) ∧ w'.cell? ⟨B, 7, none⟩ = some (.slice A n c) ∧ w'.cell? ⟨C, 0, none⟩ = some (.int .i64 i0) ∧ w'.cell? ⟨C, 1, none⟩ = some (.int .i64 i1) ∧ w'.cell? ⟨C, 2, none⟩ = some (.int .i64 i2) ∧ w'.cell? ⟨D, 0, none⟩ = some (.int .i64 h0) ∧ w'.cell? ⟨D, 1, none⟩ = some (.int .i64 h1) ∧ w'.cell? ⟨D, 2, none⟩ = some (.int .i64 h2) ∧ w'.cell? ⟨E, 0, none⟩ = some (.int .i64 v0) ∧ w'.cell? ⟨E, 1, none⟩ = some (.int .i64 v1) ∧ w'.cell? ⟨E, 2, none⟩ = some (.int .i64 v2) ∧ w'.cell? ⟨F, 0, none⟩ = some (.int .i64 fa) ∧ w'.cell? ⟨F, 1, none⟩ = some (.int .i64 fb) :=
  ⟨h, h.g.cell 0, h.g.cell 1, h.g.cell 2, h.g.cell 3, h.g.cell 4, h.g.cell 5, h.g.cell 6, h.g.cell 7, h.c.cell 0, h.c.cell 1, h.c.cell 2, h.h.cell 0, h.h.cell 1, h.h.cell 2, h.v.cell 0, h.v.cell 1, h.v.cell 2, h.x.cell 0, h.x.cell 1⟩

set_option maxRecDepth 100000 in
set_option maxHeartbeats 1600000 in
theorem inverterVolts_walk (per : Int) (b0 b1 b2 b3 b4 b5 : Bool) (A : Option Addr) (n c : Nat) (es : List Ed) (i0 i1 i2 k : Int) (w : World) (hE : Sl w w.heap.size 3 A (es.map Ed.row)) (hn : n = es.length) :
    Calls Try.prog 12 #[.agg #[.int .i64 per, .bool b0, .bool b1, .bool b2, .bool b3, .bool b4, .bool b5, .slice A n c], .agg #[.int .i64 i0, .int .i64 i1, .int .i64 i2], .int .i64 k] w fun e w' => e = .returned (.bool true) ∧ Below w.heap.size w w' := by
  have HN := Lib.hid hn
  clear hn
  have hb0 := ((Below.refl w.heap.size w).alloc (Nat.le_refl _) (.cells #[.int .i64 per, .bool b0, .bool b1, .bool b2, .bool b3, .bool b4, .bool b5, .slice A n c] 25)).alloc (by simp) (.cells #[.int .i64 i0, .int .i64 i1, .int .i64 i2] 26)
  have g0 := (Blk.new w 25 #[.int .i64 per, .bool b0, .bool b1, .bool b2, .bool b3, .bool b4, .bool b5, .slice A n c]).alloc (.cells #[.int .i64 i0, .int .i64 i1, .int .i64 i2] 26)
  have g1 := Blk.new' (w := w.alloc (.cells #[.int .i64 per, .bool b0, .bool b1, .bool b2, .bool b3, .bool b4, .bool b5, .slice A n c] 25)) (t := 26) (cs := #[.int .i64 i0, .int .i64 i1, .int .i64 i2]) (g := w.heap.size + 1) (by simp)
  by_cases hbig : 500 < n
  · go_enter Try.func12, Try.ntmps12
    go_wp2_with fail
    refine (awake_walk _).mono ?_
    rintro e w1 ⟨rfl, hb1⟩
    have hbb := hb0.trans (hb1.mono (by simp; omega))
    obtain ⟨x0, x1, x2, x3, x4, x5, x6, x7⟩ := (g0.below hb1 g0.lt).c8
    clear hb0 g0 g1 hb1
    go_wp2_with fail
    refine (awake_walk _).mono ?_
    rintro e w2 ⟨rfl, hb2⟩
    have hbc := hbb.trans (hb2.mono hbb.size)
    go_wp2
    go_ret
    exact ⟨rfl, hbc⟩
  · obtain ⟨er, her⟩ : ∃ er, err per [b0, b1, b2, b3, b4, b5] es = er := ⟨_, rfl⟩
    obtain ⟨h0, eh0⟩ : ∃ z, hgh per [b0, b1, b2, b3, b4, b5] es 0 i0 = z := ⟨_, rfl⟩
    obtain ⟨h1, eh1⟩ : ∃ z, hgh per [b0, b1, b2, b3, b4, b5] es 1 i1 = z := ⟨_, rfl⟩
    obtain ⟨h2, eh2⟩ : ∃ z, hgh per [b0, b1, b2, b3, b4, b5] es 2 i2 = z := ⟨_, rfl⟩
    obtain ⟨v0, ev0⟩ : ∃ z, voltP per [b0, b1, b2, b3, b4, b5] es 0 i0 k = z := ⟨_, rfl⟩
    obtain ⟨v1, ev1⟩ : ∃ z, voltP per [b0, b1, b2, b3, b4, b5] es 1 i1 k = z := ⟨_, rfl⟩
    obtain ⟨v2, ev2⟩ : ∃ z, voltP per [b0, b1, b2, b3, b4, b5] es 2 i2 k = z := ⟨_, rfl⟩
    obtain ⟨fa, efa⟩ : ∃ z, fwdA v0 v1 v2 = z := ⟨_, rfl⟩
    obtain ⟨fb, efb⟩ : ∃ z, fwdB v1 v2 = z := ⟨_, rfl⟩
    have hhi := fun (w1 : World) (hE' : Sl w1 w1.heap.size 3 A (es.map Ed.row)) => high_walk per b0 b1 b2 b3 b4 b5 A n c es i0 i1 i2 w1 hE' HN.out (by omega)
    have hvo := fun (w1 : World) (hE' : Sl w1 w1.heap.size 3 A (es.map Ed.row)) => volts_walk per b0 b1 b2 b3 b4 b5 A n c es i0 i1 i2 k w1 hE' HN.out (by omega)
    have hve := fun (w1 : World) (hE' : Sl w1 w1.heap.size 3 A (es.map Ed.row)) => vector_walk per b0 b1 b2 b3 b4 b5 A n c es i0 i1 i2 k w1 hE' HN.out (by omega)
    have hre := fun (w1 : World) (hE' : Sl w1 w1.heap.size 3 A (es.map Ed.row)) => rerror_walk per b0 b1 b2 b3 b4 b5 A n c es w1 hE' HN.out (by omega)
    simp only [her, eh0, eh1, eh2, ev0, ev1, ev2, efa, efb] at hhi hvo hve hre
    have HHI := hide hhi
    have HVO := hide hvo
    have HVE := hide hve
    have HRE := hide hre
    have HER := Lib.hid her
    have H0 := Lib.hid eh0
    have H1 := Lib.hid eh1
    have H2 := Lib.hid eh2
    have V0 := Lib.hid ev0
    have V1 := Lib.hid ev1
    have V2 := Lib.hid ev2
    have FA := Lib.hid efa
    have FB := Lib.hid efb
    clear hhi hvo hve hre her eh0 eh1 eh2 ev0 ev1 ev2 efa efb
    go_enter Try.func12, Try.ntmps12
    go_wp2_with fail
    refine (awake_walk _).mono ?_
    rintro e w1 ⟨rfl, hb1⟩
    have hb2 := hb0.trans (hb1.mono (by simp; omega))
    have g01 := g0.below hb1 g0.lt
    have g11 := g1.below hb1 g1.lt
    clear hb0 g0 g1 hb1
    obtain ⟨x0, x1, x2, x3, x4, x5, x6, x7⟩ := g01.c8
    obtain ⟨u0, u1, u2⟩ := g11.c3
    go_wp2_with fail
    refine ((unhide HHI) w1 ((hE.below hb2).more hb2.size)).mono ?_
    rintro e w2 ⟨rfl, hb3⟩
    have hb4 := (hb2.trans (hb3.mono hb2.size)).alloc (hb2.trans (hb3.mono hb2.size)).size (.cells #[.int .i64 h0, .int .i64 h1, .int .i64 h2] 26)
    have g02 := (g01.below hb3 g01.lt).alloc (.cells #[.int .i64 h0, .int .i64 h1, .int .i64 h2] 26)
    have g12 := (g11.below hb3 g11.lt).alloc (.cells #[.int .i64 h0, .int .i64 h1, .int .i64 h2] 26)
    have g22 := Blk.new w2 26 #[.int .i64 h0, .int .i64 h1, .int .i64 h2]
    have hsz2 := hb3.size
    clear hb2 hb3 x0 x1 x2 x3 x4 x5 x6 x7 u0 u1 u2
    obtain ⟨x0, x1, x2, x3, x4, x5, x6, x7⟩ := g02.c8
    obtain ⟨u0, u1, u2⟩ := g12.c3
    have l0 := g01.lt
    have l1 := g11.lt
    have l2 : w.heap.size < w2.heap.size := by omega
    have l3 : w.heap.size + 1 < w2.heap.size := by omega
    clear g01 g11
    go_wp2_with fail
    refine ((unhide HVO) _ ((hE.below hb4).more hb4.size)).mono ?_
    rintro e w3 ⟨rfl, hb3⟩
    have hb5 := (hb4.trans (hb3.mono hb4.size)).alloc (hb4.trans (hb3.mono hb4.size)).size (.cells #[.int .i64 v0, .int .i64 v1, .int .i64 v2] 26)
    have g03 := (g02.below hb3 g02.lt).alloc (.cells #[.int .i64 v0, .int .i64 v1, .int .i64 v2] 26)
    have g13 := (g12.below hb3 g12.lt).alloc (.cells #[.int .i64 v0, .int .i64 v1, .int .i64 v2] 26)
    have g23 := (g22.below hb3 g22.lt).alloc (.cells #[.int .i64 v0, .int .i64 v1, .int .i64 v2] 26)
    have g33 := Blk.new w3 26 #[.int .i64 v0, .int .i64 v1, .int .i64 v2]
    have hsz3 := hb3.size
    simp only [World.size_alloc] at hsz3
    have l4 : w.heap.size < w3.heap.size := by omega
    have l5 : w.heap.size + 1 < w3.heap.size := by omega
    have l6 : w2.heap.size < w3.heap.size := by omega
    clear hb4 hb3 x0 x1 x2 x3 x4 x5 x6 x7 u0 u1 u2 g02 g12 g22
    obtain ⟨x0, x1, x2, x3, x4, x5, x6, x7⟩ := g03.c8
    obtain ⟨u0, u1, u2⟩ := g13.c3
    go_wp2_with fail
    refine ((unhide HVE) _ ((hE.below hb5).more hb5.size)).mono ?_
    rintro e w4 ⟨rfl, hb3⟩
    have hb6 := (hb5.trans (hb3.mono hb5.size)).alloc (hb5.trans (hb3.mono hb5.size)).size (.cells #[.int .i64 fa, .int .i64 fb] 73)
    have g04 := (g03.below hb3 g03.lt).alloc (.cells #[.int .i64 fa, .int .i64 fb] 73)
    have g14 := (g13.below hb3 g13.lt).alloc (.cells #[.int .i64 fa, .int .i64 fb] 73)
    have g24 := (g23.below hb3 g23.lt).alloc (.cells #[.int .i64 fa, .int .i64 fb] 73)
    have g34 := (g33.below hb3 g33.lt).alloc (.cells #[.int .i64 fa, .int .i64 fb] 73)
    have g44 := Blk.new w4 73 #[.int .i64 fa, .int .i64 fb]
    have hsz4 := hb3.size
    simp only [World.size_alloc] at hsz4
    have l7 : w.heap.size < w4.heap.size := by omega
    have l8 : w.heap.size + 1 < w4.heap.size := by omega
    have l9 : w2.heap.size < w4.heap.size := by omega
    have l10 : w3.heap.size < w4.heap.size := by omega
    clear hb5 hb3 x0 x1 x2 x3 x4 x5 x6 x7 u0 u1 u2 g03 g13 g23 g33
    obtain ⟨x0, x1, x2, x3, x4, x5, x6, x7⟩ := g04.c8
    go_wp2_with fail
    refine ((unhide HRE) _ ((hE.below hb6).more hb6.size)).mono ?_
    rintro e w5 ⟨rfl, hb3⟩
    have hvs : VS w w5 w.heap.size (w.heap.size + 1) w2.heap.size w3.heap.size w4.heap.size #[.int .i64 per, .bool b0, .bool b1, .bool b2, .bool b3, .bool b4, .bool b5, .slice A n c] #[.int .i64 i0, .int .i64 i1, .int .i64 i2] #[.int .i64 h0, .int .i64 h1, .int .i64 h2] #[.int .i64 v0, .int .i64 v1, .int .i64 v2] #[.int .i64 fa, .int .i64 fb] :=
      ⟨g04.below hb3 g04.lt, g14.below hb3 g14.lt, g24.below hb3 g24.lt, g34.below hb3 g34.lt, g44.below hb3 g44.lt, hb6.trans (hb3.mono hb6.size)⟩
    clear hb6 hb3 x0 x1 x2 x3 x4 x5 x6 x7 g04 g14 g24 g34 g44 l2 l3 l4 l5 l6 l7 l8 l9 l10 hsz2 hsz3 hsz4 l0 l1
    obtain ⟨x0, x1, x2, x3, x4, x5, x6, x7⟩ := hvs.g.c8
    obtain ⟨u0, u1, u2⟩ := hvs.c.c3
    obtain ⟨y0, y1, y2⟩ := hvs.h.c3
    obtain ⟨z0, z1, z2⟩ := hvs.v.c3
    obtain ⟨t0, t1⟩ := hvs.x.c2
    by_cases he : er = 0
    · subst he
      have hrh := fun (w1 : World) (hE' : Sl w1 w1.heap.size 3 A (es.map Ed.row)) => rhigh_walk per b0 b1 b2 b3 b4 b5 A n c es i0 i1 i2 w1 hE' HN.out (by omega) (err_ok HER.out).1
      have hrv := fun (w1 : World) (hE' : Sl w1 w1.heap.size 3 A (es.map Ed.row)) => rvolts_walk per b0 b1 b2 b3 b4 b5 A n c es i0 i1 i2 k w1 hE' HN.out (by omega) HER.out
      have hrx := fun (w1 : World) (hE' : Sl w1 w1.heap.size 3 A (es.map Ed.row)) => rvector_walk per b0 b1 b2 b3 b4 b5 A n c es i0 i1 i2 k w1 hE' HN.out (by omega) HER.out
      simp only [← hgh_cnt HER.out, H0.out, H1.out, H2.out] at hrh
      simp only [V0.out, V1.out, V2.out, FA.out, FB.out] at hrv hrx
      have RH := hide hrh
      have RV := hide hrv
      have RX := hide hrx
      clear hrh hrv hrx
      rw [errV_zero]
      have hq1 := fun w => eq_ints3 h0 h1 h2 h0 h1 h2 w
      have hq2 := fun w => eq_ints3 v0 v1 v2 v0 v1 v2 w
      simp only [BEq.rfl, Bool.and_self] at hq1 hq2
      go_wp2
      go_region_held3 (fun w' => VS w w' w.heap.size (w.heap.size + 1) w2.heap.size w3.heap.size w4.heap.size #[.int .i64 per, .bool b0, .bool b1, .bool b2, .bool b3, .bool b4, .bool b5, .slice A n c] #[.int .i64 i0, .int .i64 i1, .int .i64 i2] #[.int .i64 h0, .int .i64 h1, .int .i64 h2] #[.int .i64 v0, .int .i64 v1, .int .i64 v2] #[.int .i64 fa, .int .i64 fb] ∧ w'.cell? ⟨w.heap.size, 0, none⟩ = some (.int .i64 per) ∧ w'.cell? ⟨w.heap.size, 1, none⟩ = some (.bool b0) ∧ w'.cell? ⟨w.heap.size, 2, none⟩ = some (.bool b1) ∧ w'.cell? ⟨w.heap.size, 3, none⟩ = some (.bool b2) ∧ w'.cell? ⟨w.heap.size, 4, none⟩ = some (.bool b3) ∧ w'.cell? ⟨w.heap.size, 5, none⟩ = some (.bool b4) ∧ w'.cell? ⟨w.heap.size, 6, none⟩ = some (.bool b5) ∧ w'.cell? ⟨w.heap.size, 7, none⟩ = some (.slice A n c) ∧ w'.cell? ⟨w.heap.size + 1, 0, none⟩ = some (.int .i64 i0) ∧ w'.cell? ⟨w.heap.size + 1, 1, none⟩ = some (.int .i64 i1) ∧ w'.cell? ⟨w.heap.size + 1, 2, none⟩ = some (.int .i64 i2) ∧ w'.cell? ⟨w2.heap.size, 0, none⟩ = some (.int .i64 h0) ∧ w'.cell? ⟨w2.heap.size, 1, none⟩ = some (.int .i64 h1) ∧ w'.cell? ⟨w2.heap.size, 2, none⟩ = some (.int .i64 h2) ∧ w'.cell? ⟨w3.heap.size, 0, none⟩ = some (.int .i64 v0) ∧ w'.cell? ⟨w3.heap.size, 1, none⟩ = some (.int .i64 v1) ∧ w'.cell? ⟨w3.heap.size, 2, none⟩ = some (.int .i64 v2) ∧ w'.cell? ⟨w4.heap.size, 0, none⟩ = some (.int .i64 fa) ∧ w'.cell? ⟨w4.heap.size, 1, none⟩ = some (.int .i64 fb)) (first | exact VS.all hvs | exact VS.all (VS.drew hvs) | exact VS.all (VS.below' (by assumption) (by assumption)))
        (first | (go_at_call 42; refine ((unhide RH) _ ?_).mono ?_; (exact VS.sl' hE (by assumption)); rintro e w' ⟨rfl, hbq⟩) | (go_at_call 43; refine ((unhide RV) _ ?_).mono ?_; (exact VS.sl' hE (by assumption)); rintro e w' ⟨rfl, hbq⟩) | (go_at_call 44; refine ((unhide RX) _ ?_).mono ?_; (exact VS.sl' hE (by assumption)); rintro e w' ⟨rfl, hbq⟩))
      go_wp2
      go_ret
      exact ⟨rfl, VS.b' (by assumption)⟩
    · obtain rfl : h0 = 0 := by rw [← H0.out]; exact hgh_err (by rw [HER.out]; exact he)
      obtain rfl : h1 = 0 := by rw [← H1.out]; exact hgh_err (by rw [HER.out]; exact he)
      obtain rfl : h2 = 0 := by rw [← H2.out]; exact hgh_err (by rw [HER.out]; exact he)
      obtain rfl : v0 = 0 := by rw [← V0.out]; exact voltP_err (by rw [HER.out]; exact he)
      obtain rfl : v1 = 0 := by rw [← V1.out]; exact voltP_err (by rw [HER.out]; exact he)
      obtain rfl : v2 = 0 := by rw [← V2.out]; exact voltP_err (by rw [HER.out]; exact he)
      obtain rfl : fa = 0 := by rw [← FA.out]; rfl
      obtain rfl : fb = 0 := by rw [← FB.out]; rfl
      have hne2 : (er != 0) = true := by simpa using he
      have hq := fun w => eq_ints3 0 0 0 0 0 0 w
      simp only [BEq.rfl, Bool.and_self] at hq
      clear he
      go_wp2_with fail
      refine (num_any er _).mono ?_
      rintro e w6 ⟨rfl, rfl⟩
      go_wp2_with fail
      refine (num_any er _).mono ?_
      rintro e w6 ⟨rfl, rfl⟩
      go_wp2_with fail
      refine (num_any er _).mono ?_
      rintro e w6 ⟨rfl, rfl⟩
      go_wp2
      go_ret
      exact ⟨rfl, hvs.b⟩

end Go.Proofs.Ytgnojdiecgfeaaa
