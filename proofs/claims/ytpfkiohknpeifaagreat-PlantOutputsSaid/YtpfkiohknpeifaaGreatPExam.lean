/- The statements' own helpers: Example, on, awake. -/
import Derived.Test.YtpfkiohknpeifaaGreatPStep
import Derived.Test.YtpfkiohknpeifaaGreatPOut
import Derived.Test.YtpfkiohknpeifaaGreatMulti
import Derived.Test.YtpfkiohknpeifaaGreatRow
import Derived.Deep.CutRange
namespace Go.Proofs.YtpfkiohknpeifaaGreat
open Go.RowKit
/-- The example's configuration, state and input. -/
def exP : Pc := ⟨⟨500, 50000, [-100000, 0, 100000], [-10000, 0, 10000], [-100000, 0, 100000], [-10000, 0, 10000], 2, 100000, 1000⟩, ⟨1, 100, 24000, 5000, 100, 30000, 28000, 10000⟩, 65536, 8, 10, ⟨[2, 0, 1], [0, 1024, 0], [[0, 512, 0], [512, 0, 512], [0, 512, 0]]⟩, 1000, 200⟩
def exS : Ps := ⟨50000, 0, 24000, false, 0, 0, [1638400000, 1638400000, 1638400000], 0⟩
def exZ : Pi := ⟨100, true, false, false, true, false, true, [], 0, 25000, false, false, false, false, false, false, false, false⟩
def exT : Ps := ⟨66000, 0, 24000, false, 0, 0, [1638400000, 1638400000, 1638400000], 0⟩
deriving instance DecidableEq for Ps
theorem ex_code : plCode exP = 0 := by decide +kernel
theorem ex_chk : I.chk exZ.per exZ.es = 0 := by decide +kernel
theorem ex_shrt : I.shrt exZ.per (zOn exZ) (zEs exZ) = false := by decide +kernel
theorem ex_step : pxS exP exS exZ = exT := by decide +kernel
theorem ex_a : cuA exP exT = 1600 := by decide +kernel
theorem ex_b : cuB exP exT = -800 := by decide +kernel
theorem ex_c : cuC exP exT = -800 := by decide +kernel
theorem ex_t : torq exP.m exT.fd exT.fq = 0 := by decide +kernel
theorem ex_ang : angP exT.po = 0 := by decide +kernel
theorem ex_wr : wrapP exT.po = 0 := by decide +kernel
theorem ex_cel : cels exT.h 3 = [25000, 25000, 25000] := by decide +kernel
theorem ex_warm : warmV 25000 = 1638400000 := by decide +kernel
theorem Sl.lt3 {w : World} {B : Nat} {A : Option Addr} {x : Int} {xs : List Int} (h : Sl w B 1 A (rows (x :: xs))) : ∀ ad, A = some ad → ad.block < B := fun ad e => by
  obtain ⟨ad', e', hb, _⟩ := h.at_ (by simp [rows])
  rw [e] at e'
  injection e' with e'
  rw [e']
  exact hb
set_option maxRecDepth 100000 in
set_option maxHeartbeats 3200000 in
theorem ex_walk (w : World) : Calls Tryz.prog 20 #[] w fun e w' => ∃ X : Pa, e = .returned (.agg #[.int .i64 exP.m.r, .int .i64 exP.m.m, .slice X.A1 X.n1 X.c1, .slice X.A2 X.n2 X.c2, .slice X.A3 X.n3 X.c3, .slice X.A4 X.n4 X.c4, .int .i64 exP.m.p, .int .i64 exP.m.s, .int .i64 exP.m.f, .int .i64 exP.l.num, .int .i64 exP.l.den, .int .i64 exP.l.sup, .int .i64 exP.l.fed, .int .i64 exP.l.ohm, .int .i64 exP.l.bon, .int .i64 exP.l.boff, .int .i64 exP.l.bohm, .int .i64 exP.g, .int .i64 exP.d, .int .i64 exP.y, .slice X.B1 X.m1 X.d1, .slice X.B2 X.m2 X.d2, .slice X.B3 X.m3 X.d3, .int .i64 exP.wi, .int .i64 exP.sw]) ∧ Py w' w'.heap.size exP X ∧ Below w.heap.size w w' := by
  have HB := Below.refl w.heap.size w
  obtain ⟨w1, eW1, sW1, b0, hb⟩ := box w #[.int .i64 0, .int .i64 0, .slice none 0 0, .slice none 0 0, .slice none 0 0, .slice none 0 0, .int .i64 0, .int .i64 0, .int .i64 0, .int .i64 0, .int .i64 0, .int .i64 0, .int .i64 0, .int .i64 0, .int .i64 0, .int .i64 0, .int .i64 0, .int .i64 0, .int .i64 0, .int .i64 0, .slice none 0 0, .slice none 0 0, .slice none 0 0, .int .i64 0, .int .i64 0] 35 (g := w.heap.size) rfl HB (by have := HB.size; omega)
  have Qb0 : Hid (w.heap.size ≤ w.heap.size) := Lib.hid (by have := HB.size; omega)
  replace HB := hb
  clear hb
  obtain ⟨w2, eW2, sW2, b1, hb⟩ := box w1 #[.int .i64 (-100000), .int .i64 0, .int .i64 100000] 3 (g := w.heap.size + 1) sW1 HB (by have := HB.size; omega)
  have Qb1 : Hid (w.heap.size ≤ w.heap.size + 1 ∧ w.heap.size < w.heap.size + 1) := Lib.hid ⟨by have := HB.size; omega, by have := b0.lt; omega⟩
  replace b0 := b0.al eW2
  replace HB := hb
  clear hb
  obtain ⟨w3, eW3, sW3, b2, hb⟩ := box w2 #[.int .i64 (-10000), .int .i64 0, .int .i64 10000] 3 (g := w.heap.size + 1 + 1) sW2 HB (by have := HB.size; omega)
  have Qb2 : Hid (w.heap.size ≤ w.heap.size + 1 + 1 ∧ w.heap.size < w.heap.size + 1 + 1 ∧ w.heap.size + 1 < w.heap.size + 1 + 1) := Lib.hid ⟨by have := HB.size; omega, by have := b0.lt; omega, by have := b1.lt; omega⟩
  replace b0 := b0.al eW3
  replace b1 := b1.al eW3
  replace HB := hb
  clear hb
  obtain ⟨w4, eW4, sW4, b3, hb⟩ := box w3 #[.slice none 0 0, .slice none 0 0] 24 (g := w.heap.size + 1 + 1 + 1) sW3 HB (by have := HB.size; omega)
  have Qb3 : Hid (w.heap.size ≤ w.heap.size + 1 + 1 + 1 ∧ w.heap.size < w.heap.size + 1 + 1 + 1 ∧ w.heap.size + 1 < w.heap.size + 1 + 1 + 1 ∧ w.heap.size + 1 + 1 < w.heap.size + 1 + 1 + 1) := Lib.hid ⟨by have := HB.size; omega, by have := b0.lt; omega, by have := b1.lt; omega, by have := b2.lt; omega⟩
  replace b0 := b0.al eW4
  replace b1 := b1.al eW4
  replace b2 := b2.al eW4
  replace HB := hb
  clear hb
  have qb0 := Qb0.out
  have qb1 := Qb1.out
  have qb2 := Qb2.out
  have qb3 := Qb3.out
  have b3o4 := b3
  obtain ⟨w5, eW5, sW5, hr, hb⟩ := rowX b3 #[.slice (some ⟨w.heap.size + 1, 0, none⟩) 3 3, .slice (some ⟨w.heap.size + 1 + 1, 0, none⟩) 3 3] (n := w.heap.size + 1 + 1 + 1 + 1) sW4 HB (by omega)
  replace b0 := b0.rowTo eW5 (by omega)
  replace b1 := b1.rowTo eW5 (by omega)
  replace b2 := b2.rowTo eW5 (by omega)
  replace b3 := hr
  replace HB := hb
  clear hb hr qb0 qb1 qb2 qb3
  have b3c0 := b3.cell 0
  have b3c1 := b3.cell 1
  obtain ⟨w6, eW6, sW6, b4, hb⟩ := box w5 #[.int .i64 2, .int .i64 0, .int .i64 1] 3 (g := w.heap.size + 1 + 1 + 1 + 1) sW5 HB (by have := HB.size; omega)
  have Qb4 : Hid (w.heap.size ≤ w.heap.size + 1 + 1 + 1 + 1 ∧ w.heap.size < w.heap.size + 1 + 1 + 1 + 1 ∧ w.heap.size + 1 < w.heap.size + 1 + 1 + 1 + 1 ∧ w.heap.size + 1 + 1 < w.heap.size + 1 + 1 + 1 + 1 ∧ w.heap.size + 1 + 1 + 1 < w.heap.size + 1 + 1 + 1 + 1) := Lib.hid ⟨by have := HB.size; omega, by have := b0.lt; omega, by have := b1.lt; omega, by have := b2.lt; omega, by have := b3.lt; omega⟩
  replace b0 := b0.al eW6
  replace b1 := b1.al eW6
  replace b2 := b2.al eW6
  replace b3 := b3.al eW6
  replace HB := hb
  clear hb
  obtain ⟨w7, eW7, sW7, b5, hb⟩ := box w6 #[.int .i64 0, .int .i64 1024, .int .i64 0] 3 (g := w.heap.size + 1 + 1 + 1 + 1 + 1) sW6 HB (by have := HB.size; omega)
  have Qb5 : Hid (w.heap.size ≤ w.heap.size + 1 + 1 + 1 + 1 + 1 ∧ w.heap.size < w.heap.size + 1 + 1 + 1 + 1 + 1 ∧ w.heap.size + 1 < w.heap.size + 1 + 1 + 1 + 1 + 1 ∧ w.heap.size + 1 + 1 < w.heap.size + 1 + 1 + 1 + 1 + 1 ∧ w.heap.size + 1 + 1 + 1 < w.heap.size + 1 + 1 + 1 + 1 + 1 ∧ w.heap.size + 1 + 1 + 1 + 1 < w.heap.size + 1 + 1 + 1 + 1 + 1) := Lib.hid ⟨by have := HB.size; omega, by have := b0.lt; omega, by have := b1.lt; omega, by have := b2.lt; omega, by have := b3.lt; omega, by have := b4.lt; omega⟩
  replace b0 := b0.al eW7
  replace b1 := b1.al eW7
  replace b2 := b2.al eW7
  replace b3 := b3.al eW7
  replace b4 := b4.al eW7
  replace HB := hb
  clear hb
  obtain ⟨w8, eW8, sW8, b6, hb⟩ := box w7 #[.int .i64 0, .int .i64 512, .int .i64 0] 3 (g := w.heap.size + 1 + 1 + 1 + 1 + 1 + 1) sW7 HB (by have := HB.size; omega)
  have Qb6 : Hid (w.heap.size ≤ w.heap.size + 1 + 1 + 1 + 1 + 1 + 1 ∧ w.heap.size < w.heap.size + 1 + 1 + 1 + 1 + 1 + 1 ∧ w.heap.size + 1 < w.heap.size + 1 + 1 + 1 + 1 + 1 + 1 ∧ w.heap.size + 1 + 1 < w.heap.size + 1 + 1 + 1 + 1 + 1 + 1 ∧ w.heap.size + 1 + 1 + 1 < w.heap.size + 1 + 1 + 1 + 1 + 1 + 1 ∧ w.heap.size + 1 + 1 + 1 + 1 < w.heap.size + 1 + 1 + 1 + 1 + 1 + 1 ∧ w.heap.size + 1 + 1 + 1 + 1 + 1 < w.heap.size + 1 + 1 + 1 + 1 + 1 + 1) := Lib.hid ⟨by have := HB.size; omega, by have := b0.lt; omega, by have := b1.lt; omega, by have := b2.lt; omega, by have := b3.lt; omega, by have := b4.lt; omega, by have := b5.lt; omega⟩
  replace b0 := b0.al eW8
  replace b1 := b1.al eW8
  replace b2 := b2.al eW8
  replace b3 := b3.al eW8
  replace b4 := b4.al eW8
  replace b5 := b5.al eW8
  replace HB := hb
  clear hb
  obtain ⟨w9, eW9, sW9, b7, hb⟩ := box w8 #[.int .i64 512, .int .i64 0, .int .i64 512] 3 (g := w.heap.size + 1 + 1 + 1 + 1 + 1 + 1 + 1) sW8 HB (by have := HB.size; omega)
  have Qb7 : Hid (w.heap.size ≤ w.heap.size + 1 + 1 + 1 + 1 + 1 + 1 + 1 ∧ w.heap.size < w.heap.size + 1 + 1 + 1 + 1 + 1 + 1 + 1 ∧ w.heap.size + 1 < w.heap.size + 1 + 1 + 1 + 1 + 1 + 1 + 1 ∧ w.heap.size + 1 + 1 < w.heap.size + 1 + 1 + 1 + 1 + 1 + 1 + 1 ∧ w.heap.size + 1 + 1 + 1 < w.heap.size + 1 + 1 + 1 + 1 + 1 + 1 + 1 ∧ w.heap.size + 1 + 1 + 1 + 1 < w.heap.size + 1 + 1 + 1 + 1 + 1 + 1 + 1 ∧ w.heap.size + 1 + 1 + 1 + 1 + 1 < w.heap.size + 1 + 1 + 1 + 1 + 1 + 1 + 1 ∧ w.heap.size + 1 + 1 + 1 + 1 + 1 + 1 < w.heap.size + 1 + 1 + 1 + 1 + 1 + 1 + 1) := Lib.hid ⟨by have := HB.size; omega, by have := b0.lt; omega, by have := b1.lt; omega, by have := b2.lt; omega, by have := b3.lt; omega, by have := b4.lt; omega, by have := b5.lt; omega, by have := b6.lt; omega⟩
  replace b0 := b0.al eW9
  replace b1 := b1.al eW9
  replace b2 := b2.al eW9
  replace b3 := b3.al eW9
  replace b4 := b4.al eW9
  replace b5 := b5.al eW9
  replace b6 := b6.al eW9
  replace HB := hb
  clear hb
  obtain ⟨w10, eW10, sW10, b8, hb⟩ := box w9 #[.int .i64 0, .int .i64 512, .int .i64 0] 3 (g := w.heap.size + 1 + 1 + 1 + 1 + 1 + 1 + 1 + 1) sW9 HB (by have := HB.size; omega)
  have Qb8 : Hid (w.heap.size ≤ w.heap.size + 1 + 1 + 1 + 1 + 1 + 1 + 1 + 1 ∧ w.heap.size < w.heap.size + 1 + 1 + 1 + 1 + 1 + 1 + 1 + 1 ∧ w.heap.size + 1 < w.heap.size + 1 + 1 + 1 + 1 + 1 + 1 + 1 + 1 ∧ w.heap.size + 1 + 1 < w.heap.size + 1 + 1 + 1 + 1 + 1 + 1 + 1 + 1 ∧ w.heap.size + 1 + 1 + 1 < w.heap.size + 1 + 1 + 1 + 1 + 1 + 1 + 1 + 1 ∧ w.heap.size + 1 + 1 + 1 + 1 < w.heap.size + 1 + 1 + 1 + 1 + 1 + 1 + 1 + 1 ∧ w.heap.size + 1 + 1 + 1 + 1 + 1 < w.heap.size + 1 + 1 + 1 + 1 + 1 + 1 + 1 + 1 ∧ w.heap.size + 1 + 1 + 1 + 1 + 1 + 1 < w.heap.size + 1 + 1 + 1 + 1 + 1 + 1 + 1 + 1 ∧ w.heap.size + 1 + 1 + 1 + 1 + 1 + 1 + 1 < w.heap.size + 1 + 1 + 1 + 1 + 1 + 1 + 1 + 1) := Lib.hid ⟨by have := HB.size; omega, by have := b0.lt; omega, by have := b1.lt; omega, by have := b2.lt; omega, by have := b3.lt; omega, by have := b4.lt; omega, by have := b5.lt; omega, by have := b6.lt; omega, by have := b7.lt; omega⟩
  replace b0 := b0.al eW10
  replace b1 := b1.al eW10
  replace b2 := b2.al eW10
  replace b3 := b3.al eW10
  replace b4 := b4.al eW10
  replace b5 := b5.al eW10
  replace b6 := b6.al eW10
  replace b7 := b7.al eW10
  replace HB := hb
  clear hb
  obtain ⟨w11, eW11, sW11, b9, hb⟩ := box w10 #[.slice (some ⟨w.heap.size + 1 + 1 + 1 + 1 + 1 + 1, 0, none⟩) 3 3, .slice (some ⟨w.heap.size + 1 + 1 + 1 + 1 + 1 + 1 + 1, 0, none⟩) 3 3, .slice (some ⟨w.heap.size + 1 + 1 + 1 + 1 + 1 + 1 + 1 + 1, 0, none⟩) 3 3] 22 (g := w.heap.size + 1 + 1 + 1 + 1 + 1 + 1 + 1 + 1 + 1) sW10 HB (by have := HB.size; omega)
  have Qb9 : Hid (w.heap.size ≤ w.heap.size + 1 + 1 + 1 + 1 + 1 + 1 + 1 + 1 + 1 ∧ w.heap.size < w.heap.size + 1 + 1 + 1 + 1 + 1 + 1 + 1 + 1 + 1 ∧ w.heap.size + 1 < w.heap.size + 1 + 1 + 1 + 1 + 1 + 1 + 1 + 1 + 1 ∧ w.heap.size + 1 + 1 < w.heap.size + 1 + 1 + 1 + 1 + 1 + 1 + 1 + 1 + 1 ∧ w.heap.size + 1 + 1 + 1 < w.heap.size + 1 + 1 + 1 + 1 + 1 + 1 + 1 + 1 + 1 ∧ w.heap.size + 1 + 1 + 1 + 1 < w.heap.size + 1 + 1 + 1 + 1 + 1 + 1 + 1 + 1 + 1 ∧ w.heap.size + 1 + 1 + 1 + 1 + 1 < w.heap.size + 1 + 1 + 1 + 1 + 1 + 1 + 1 + 1 + 1 ∧ w.heap.size + 1 + 1 + 1 + 1 + 1 + 1 < w.heap.size + 1 + 1 + 1 + 1 + 1 + 1 + 1 + 1 + 1 ∧ w.heap.size + 1 + 1 + 1 + 1 + 1 + 1 + 1 < w.heap.size + 1 + 1 + 1 + 1 + 1 + 1 + 1 + 1 + 1 ∧ w.heap.size + 1 + 1 + 1 + 1 + 1 + 1 + 1 + 1 < w.heap.size + 1 + 1 + 1 + 1 + 1 + 1 + 1 + 1 + 1) := Lib.hid ⟨by have := HB.size; omega, by have := b0.lt; omega, by have := b1.lt; omega, by have := b2.lt; omega, by have := b3.lt; omega, by have := b4.lt; omega, by have := b5.lt; omega, by have := b6.lt; omega, by have := b7.lt; omega, by have := b8.lt; omega⟩
  replace b0 := b0.al eW11
  replace b1 := b1.al eW11
  replace b2 := b2.al eW11
  replace b3 := b3.al eW11
  replace b4 := b4.al eW11
  replace b5 := b5.al eW11
  replace b6 := b6.al eW11
  replace b7 := b7.al eW11
  replace b8 := b8.al eW11
  replace HB := hb
  clear hb
  have qb0 := Qb0.out
  have qb1 := Qb1.out
  have qb2 := Qb2.out
  have qb3 := Qb3.out
  have qb4 := Qb4.out
  have qb5 := Qb5.out
  have qb6 := Qb6.out
  have qb7 := Qb7.out
  have qb8 := Qb8.out
  have qb9 := Qb9.out
  have b0o11 := b0
  obtain ⟨w12, eW12, sW12, hr, hb⟩ := rowX b0 #[.int .i64 500, .int .i64 50000, .slice (some ⟨w.heap.size + 1, 0, none⟩) 3 3, .slice (some ⟨w.heap.size + 1 + 1, 0, none⟩) 3 3, .slice (some ⟨w.heap.size + 1, 0, none⟩) 3 3, .slice (some ⟨w.heap.size + 1 + 1, 0, none⟩) 3 3, .int .i64 2, .int .i64 100000, .int .i64 1000, .int .i64 1, .int .i64 100, .int .i64 24000, .int .i64 5000, .int .i64 100, .int .i64 30000, .int .i64 28000, .int .i64 10000, .int .i64 65536, .int .i64 8, .int .i64 10, .slice (some ⟨w.heap.size + 1 + 1 + 1 + 1, 0, none⟩) 3 3, .slice (some ⟨w.heap.size + 1 + 1 + 1 + 1 + 1, 0, none⟩) 3 3, .slice (some ⟨w.heap.size + 1 + 1 + 1 + 1 + 1 + 1 + 1 + 1 + 1, 0, none⟩) 3 3, .int .i64 1000, .int .i64 200] (n := w.heap.size + 1 + 1 + 1 + 1 + 1 + 1 + 1 + 1 + 1 + 1) sW11 HB (by omega)
  replace b1 := b1.rowTo eW12 (by omega)
  replace b2 := b2.rowTo eW12 (by omega)
  replace b3 := b3.rowTo eW12 (by omega)
  replace b4 := b4.rowTo eW12 (by omega)
  replace b5 := b5.rowTo eW12 (by omega)
  replace b6 := b6.rowTo eW12 (by omega)
  replace b7 := b7.rowTo eW12 (by omega)
  replace b8 := b8.rowTo eW12 (by omega)
  replace b9 := b9.rowTo eW12 (by omega)
  replace b0 := hr
  replace HB := hb
  clear hb hr qb0 qb1 qb2 qb3 qb4 qb5 qb6 qb7 qb8 qb9
  clear Qb0 Qb1 Qb2 Qb3 Qb4 Qb5 Qb6 Qb7 Qb8 Qb9
  go_enter Tryz.func20, Tryz.ntmps20
  go_wp2_with (first | (refine wpList_store_row rfl 24 _ _ rfl (w.heap.size + 1 + 1 + 1) #[.slice (some ⟨w.heap.size + 1, 0, none⟩) 3 3, .slice (some ⟨w.heap.size + 1 + 1, 0, none⟩) 3 3] rfl rfl _ _ b3o4 (by kernel_rfl) (by kernel_rfl) (by kernel_rfl) ?_) | (refine wpList_store_row rfl 35 _ _ rfl (w.heap.size) #[.int .i64 500, .int .i64 50000, .slice (some ⟨w.heap.size + 1, 0, none⟩) 3 3, .slice (some ⟨w.heap.size + 1 + 1, 0, none⟩) 3 3, .slice (some ⟨w.heap.size + 1, 0, none⟩) 3 3, .slice (some ⟨w.heap.size + 1 + 1, 0, none⟩) 3 3, .int .i64 2, .int .i64 100000, .int .i64 1000, .int .i64 1, .int .i64 100, .int .i64 24000, .int .i64 5000, .int .i64 100, .int .i64 30000, .int .i64 28000, .int .i64 10000, .int .i64 65536, .int .i64 8, .int .i64 10, .slice (some ⟨w.heap.size + 1 + 1 + 1 + 1, 0, none⟩) 3 3, .slice (some ⟨w.heap.size + 1 + 1 + 1 + 1 + 1, 0, none⟩) 3 3, .slice (some ⟨w.heap.size + 1 + 1 + 1 + 1 + 1 + 1 + 1 + 1 + 1, 0, none⟩) 3 3, .int .i64 1000, .int .i64 200] rfl rfl _ _ b0o11 (by kernel_rfl) (by kernel_rfl) (by kernel_rfl) ?_))
  try simp only [eW12]
  refine bodyPost_ret (ret_cell rfl rfl (load_blk _ rfl b0 Tryz.underlying35 (by kernel_rfl))) rfl ⟨⟨some ⟨w.heap.size + 1, 0, none⟩, some ⟨w.heap.size + 1 + 1, 0, none⟩, some ⟨w.heap.size + 1, 0, none⟩, some ⟨w.heap.size + 1 + 1, 0, none⟩, some ⟨w.heap.size + 1 + 1 + 1 + 1, 0, none⟩, some ⟨w.heap.size + 1 + 1 + 1 + 1 + 1, 0, none⟩, some ⟨w.heap.size + 1 + 1 + 1 + 1 + 1 + 1 + 1 + 1 + 1, 0, none⟩, 3, 3, 3, 3, 3, 3, 3, 3, 3, 3, 3, 3, 3, 3, fun i => match i with | 0 => some ⟨w.heap.size + 1 + 1 + 1 + 1 + 1 + 1, 0, none⟩ | 1 => some ⟨w.heap.size + 1 + 1 + 1 + 1 + 1 + 1 + 1, 0, none⟩ | _ => some ⟨w.heap.size + 1 + 1 + 1 + 1 + 1 + 1 + 1 + 1, 0, none⟩, fun _ => 3⟩, rfl, ⟨⟨sl_three b1 b1.lt, sl_three b2 b2.lt, sl_three b1 b1.lt, sl_three b2 b2.lt, rfl, rfl, rfl, rfl⟩, ⟨sl_three b4 b4.lt, sl_three b5 b5.lt, fun _ => ⟨_, rfl, b9.lt, fun i hi => ?_⟩, fun i hi => ?_, rfl, rfl, rfl⟩⟩, HB⟩
  · replace hi : i < 3 := hi
    rcases (by omega : i = 0 ∨ i = 1 ∨ i = 2) with rfl | rfl | rfl
    · exact b9.cell 0
    · exact b9.cell 1
    · exact b9.cell 2
  · replace hi : i < 3 := hi
    rcases (by omega : i = 0 ∨ i = 1 ∨ i = 2) with rfl | rfl | rfl
    · exact sl_three b6 b6.lt
    · exact sl_three b7 b7.lt
    · exact sl_three b8 b8.lt
set_option maxRecDepth 100000 in
theorem on_walk (w : World) : Calls Tryz.prog 21 #[] w fun e w' => e = .returned (.agg #[.int .i64 100, .bool true, .bool false, .bool false, .bool true, .bool false, .bool true, .slice none 0 0]) ∧ Below w.heap.size w w' := by
  have HB := Below.refl w.heap.size w
  obtain ⟨w1, eW1, sW1, b0, hb⟩ := box w #[.int .i64 0, .bool false, .bool false, .bool false, .bool false, .bool false, .bool false, .slice none 0 0] 51 (g := w.heap.size) rfl HB (by have := HB.size; omega)
  have Qb0 : Hid (w.heap.size ≤ w.heap.size) := Lib.hid (by have := HB.size; omega)
  replace HB := hb
  clear hb
  have qb0 := Qb0.out
  have b0o1 := b0
  obtain ⟨w2, eW2, sW2, hr, hb⟩ := rowX b0 #[.int .i64 100, .bool true, .bool false, .bool false, .bool true, .bool false, .bool true, .slice none 0 0] (n := w.heap.size + 1) sW1 HB (by omega)
  replace b0 := hr
  replace HB := hb
  clear hb hr qb0
  go_enter Tryz.func21, Tryz.ntmps21
  go_wp2_with (first | (refine wpList_store_row rfl 51 _ _ rfl (w.heap.size) #[.int .i64 100, .bool true, .bool false, .bool false, .bool true, .bool false, .bool true, .slice none 0 0] rfl rfl _ _ b0o1 (by kernel_rfl) (by kernel_rfl) (by kernel_rfl) ?_))
  try simp only [eW2]
  exact bodyPost_ret (ret_cell rfl rfl (load_blk _ rfl b0 Tryz.underlying51 (by kernel_rfl))) rfl ⟨rfl, HB⟩
end Go.Proofs.YtpfkiohknpeifaaGreat
