/- large. -/
import Derived.Test.YtpfkiohknpeifaaGreatPPlant
import Derived.Test.YtpfkiohknpeifaaGreatBox
import Derived.Test.YtpfkiohknpeifaaGreatRow
namespace Go.Proofs.YtpfkiohknpeifaaGreat
open Go.RowKit
/-- The lengths of four slices, added as the program does. -/
def sum4 (n1 n2 n3 n4 : Nat) : Int := wrap64 (wrap64 (wrap64 ((n1 : Int) + n2) + n3) + n4)
/-- Too large for a statement. -/
def lgP (X : Pa) (yn gn : Nat) : Bool := decide (400 < sum4 X.n1 X.n2 X.n3 X.n4 ∨ 50 < X.m1 ∨ 50 < X.m2 ∨ 50 < X.m3 ∨ 50 < yn ∨ 500 < gn)
theorem lgP_gn {X : Pa} {yn gn : Nat} (h : lgP X yn gn = false) : gn ≤ 500 ∧ yn ≤ 50 := by
  unfold lgP at h
  have := of_decide_eq_false h
  omega
set_option maxRecDepth 100000 in
set_option maxHeartbeats 3200000 in
theorem large_walkP (P : Pc) (X : Pa) (s : Ps) (YA : Option Addr) (yn yc : Nat) (z : Pi) (GA : Option Addr) (gn gc : Nat) (w : World) : Calls Tryz.prog 7 #[.agg #[.int .i64 P.m.r, .int .i64 P.m.m, .slice X.A1 X.n1 X.c1, .slice X.A2 X.n2 X.c2, .slice X.A3 X.n3 X.c3, .slice X.A4 X.n4 X.c4, .int .i64 P.m.p, .int .i64 P.m.s, .int .i64 P.m.f, .int .i64 P.l.num, .int .i64 P.l.den, .int .i64 P.l.sup, .int .i64 P.l.fed, .int .i64 P.l.ohm, .int .i64 P.l.bon, .int .i64 P.l.boff, .int .i64 P.l.bohm, .int .i64 P.g, .int .i64 P.d, .int .i64 P.y, .slice X.B1 X.m1 X.d1, .slice X.B2 X.m2 X.d2, .slice X.B3 X.m3 X.d3, .int .i64 P.wi, .int .i64 P.sw], .agg #[.int .i64 s.fd, .int .i64 s.fq, .int .i64 s.v, .bool s.b, .int .i64 s.po, .int .i64 s.sp, .slice YA yn yc, .int .i64 s.tn], .agg #[.int .i64 z.per, .bool z.b0, .bool z.b1, .bool z.b2, .bool z.b3, .bool z.b4, .bool z.b5, .slice GA gn gc, .int .i64 z.ld, .int .i64 z.amb, .bool z.k0, .bool z.k1, .bool z.k2, .bool z.k3, .bool z.k4, .bool z.k5, .bool z.de, .bool z.nb]] w fun e w' => e = .returned (.bool (lgP X yn gn)) ∧ Below w.heap.size w w' := by
  have HB := Below.refl w.heap.size w
  obtain ⟨w1, eW1, sW1, rc, hb⟩ := box w #[.int .i64 P.m.r, .int .i64 P.m.m, .slice X.A1 X.n1 X.c1, .slice X.A2 X.n2 X.c2, .slice X.A3 X.n3 X.c3, .slice X.A4 X.n4 X.c4, .int .i64 P.m.p, .int .i64 P.m.s, .int .i64 P.m.f, .int .i64 P.l.num, .int .i64 P.l.den, .int .i64 P.l.sup, .int .i64 P.l.fed, .int .i64 P.l.ohm, .int .i64 P.l.bon, .int .i64 P.l.boff, .int .i64 P.l.bohm, .int .i64 P.g, .int .i64 P.d, .int .i64 P.y, .slice X.B1 X.m1 X.d1, .slice X.B2 X.m2 X.d2, .slice X.B3 X.m3 X.d3, .int .i64 P.wi, .int .i64 P.sw] 35 (g := w.heap.size) rfl HB (by have := HB.size; omega)
  have Qrc : Hid (w.heap.size ≤ w.heap.size) := Lib.hid (by have := HB.size; omega)
  replace HB := hb
  clear hb
  obtain ⟨w2, eW2, sW2, rs, hb⟩ := box w1 #[.int .i64 s.fd, .int .i64 s.fq, .int .i64 s.v, .bool s.b, .int .i64 s.po, .int .i64 s.sp, .slice YA yn yc, .int .i64 s.tn] 47 (g := w.heap.size + 1) sW1 HB (by have := HB.size; omega)
  have Qrs : Hid (w.heap.size ≤ w.heap.size + 1 ∧ w.heap.size < w.heap.size + 1) := Lib.hid ⟨by have := HB.size; omega, by have := rc.lt; omega⟩
  replace rc := rc.al eW2
  replace HB := hb
  clear hb
  obtain ⟨w3, eW3, sW3, ri, hb⟩ := box w2 #[.int .i64 z.per, .bool z.b0, .bool z.b1, .bool z.b2, .bool z.b3, .bool z.b4, .bool z.b5, .slice GA gn gc, .int .i64 z.ld, .int .i64 z.amb, .bool z.k0, .bool z.k1, .bool z.k2, .bool z.k3, .bool z.k4, .bool z.k5, .bool z.de, .bool z.nb] 53 (g := w.heap.size + 1 + 1) sW2 HB (by have := HB.size; omega)
  have Qri : Hid (w.heap.size ≤ w.heap.size + 1 + 1 ∧ w.heap.size < w.heap.size + 1 + 1 ∧ w.heap.size + 1 < w.heap.size + 1 + 1) := Lib.hid ⟨by have := HB.size; omega, by have := rc.lt; omega, by have := rs.lt; omega⟩
  replace rc := rc.al eW3
  replace rs := rs.al eW3
  replace HB := hb
  clear hb
  clear Qrc Qrs Qri
  have hl : lgP X yn gn = decide (400 < sum4 X.n1 X.n2 X.n3 X.n4 ∨ 50 < X.m1 ∨ 50 < X.m2 ∨ 50 < X.m3 ∨ 50 < yn ∨ 500 < gn) := rfl
  have hs : sum4 X.n1 X.n2 X.n3 X.n4 = wrap64 (wrap64 (wrap64 ((X.n1 : Int) + X.n2) + X.n3) + X.n4) := rfl
  have HL := Lib.hid hl
  have HS := Lib.hid hs
  clear hl hs
  go_enter Tryz.func7, Tryz.ntmps7
  have rcc2 := rc.cell 2
  have rcc3 := rc.cell 3
  have rcc4 := rc.cell 4
  have rcc5 := rc.cell 5
  have rcc20 := rc.cell 20
  have rcc21 := rc.cell 21
  have rcc22 := rc.cell 22
  have rsc6 := rs.cell 6
  have ric7 := ri.cell 7
  by_cases h0 : (400 : Int) < wrap64 (wrap64 (wrap64 ((X.n1 : Int) + X.n2) + X.n3) + X.n4)
  · go_wp2
    go_ret
    exact ⟨congrArg (fun x => Ending.returned (.bool x)) (by symm; rw [HL.out, HS.out]; rw [decide_eq_true_eq]; omega), HB⟩
  by_cases h1 : (50 : Int) < X.m1
  · go_wp2
    go_ret
    exact ⟨congrArg (fun x => Ending.returned (.bool x)) (by symm; rw [HL.out, HS.out]; rw [decide_eq_true_eq]; omega), HB⟩
  by_cases h2 : (50 : Int) < X.m2
  · go_wp2
    go_ret
    exact ⟨congrArg (fun x => Ending.returned (.bool x)) (by symm; rw [HL.out, HS.out]; rw [decide_eq_true_eq]; omega), HB⟩
  by_cases h3 : (50 : Int) < X.m3
  · go_wp2
    go_ret
    exact ⟨congrArg (fun x => Ending.returned (.bool x)) (by symm; rw [HL.out, HS.out]; rw [decide_eq_true_eq]; omega), HB⟩
  by_cases h4 : (50 : Int) < yn
  · go_wp2
    go_ret
    exact ⟨congrArg (fun x => Ending.returned (.bool x)) (by symm; rw [HL.out, HS.out]; rw [decide_eq_true_eq]; omega), HB⟩
  by_cases h5 : (500 : Int) < gn
  · go_wp2
    go_ret
    exact ⟨congrArg (fun x => Ending.returned (.bool x)) (by symm; rw [HL.out, HS.out]; rw [decide_eq_true_eq]; omega), HB⟩
  · go_wp2
    go_ret
    exact ⟨congrArg (fun x => Ending.returned (.bool x)) (by symm; rw [HL.out, HS.out]; rw [decide_eq_false_iff_not]; omega), HB⟩
end Go.Proofs.YtpfkiohknpeifaaGreat
