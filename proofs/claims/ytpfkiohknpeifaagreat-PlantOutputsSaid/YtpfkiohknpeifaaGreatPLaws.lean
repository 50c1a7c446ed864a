/- plant.Step with whatever is wrong; plain laws of layer 31. -/
import Derived.Test.YtpfkiohknpeifaaGreatPStep
import Derived.Test.YtpfkiohknpeifaaGreatPOut
namespace Go.Proofs.YtpfkiohknpeifaaGreat
open Go.RowKit
theorem pstepM_bad (P : Pc) (X : Pa) (s : Ps) (YA : Option Addr) (yn yc : Nat) (z : Pi) (GA : Option Addr) (gn gc : Nat) (w : World) (L : Py w w.heap.size P X) (ey : yn = s.h.length) (SG : Sl w w.heap.size 3 GA (z.es.map I.Ed.row)) (eg : gn = z.es.length) (gm : gn ≤ 1000000) (hc : stCode P s z ≠ 0) :
    Calls Tryz.prog 14 #[.agg #[.int .i64 P.m.r, .int .i64 P.m.m, .slice X.A1 X.n1 X.c1, .slice X.A2 X.n2 X.c2, .slice X.A3 X.n3 X.c3, .slice X.A4 X.n4 X.c4, .int .i64 P.m.p, .int .i64 P.m.s, .int .i64 P.m.f, .int .i64 P.l.num, .int .i64 P.l.den, .int .i64 P.l.sup, .int .i64 P.l.fed, .int .i64 P.l.ohm, .int .i64 P.l.bon, .int .i64 P.l.boff, .int .i64 P.l.bohm, .int .i64 P.g, .int .i64 P.d, .int .i64 P.y, .slice X.B1 X.m1 X.d1, .slice X.B2 X.m2 X.d2, .slice X.B3 X.m3 X.d3, .int .i64 P.wi, .int .i64 P.sw], .agg #[.int .i64 s.fd, .int .i64 s.fq, .int .i64 s.v, .bool s.b, .int .i64 s.po, .int .i64 s.sp, .slice YA yn yc, .int .i64 s.tn], .agg #[.int .i64 z.per, .bool z.b0, .bool z.b1, .bool z.b2, .bool z.b3, .bool z.b4, .bool z.b5, .slice GA gn gc, .int .i64 z.ld, .int .i64 z.amb, .bool z.k0, .bool z.k1, .bool z.k2, .bool z.k3, .bool z.k4, .bool z.k5, .bool z.de, .bool z.nb]] w fun e w' => e = .returned (.tuple #[.agg #[.int .i64 0, .int .i64 0, .int .i64 0, .bool false, .int .i64 0, .int .i64 0, .slice none 0 0, .int .i64 0], errV (stCode P s z)]) ∧ Below w.heap.size w w' := by
  unfold stCode at hc ⊢
  by_cases h1 : plCode P = 0
  case neg => rw [if_pos h1]; exact pstepM_1 P X s YA yn yc z GA gn gc w L h1
  rw [if_neg (by omega)] at hc ⊢
  unfold inCode at hc ⊢
  by_cases h2 : s.h.length = 3
  case neg => rw [if_pos h2]; exact pstepM_2 P X s YA yn yc z GA gn gc w L ey h1 h2
  rw [if_neg (by omega)] at hc ⊢
  by_cases h3 : I.chk z.per z.es = 0
  case neg => rw [if_pos h3]; exact pstepM_3 P X s YA yn yc z GA gn gc w L ey SG eg gm h1 h2 h3
  rw [if_neg (by omega)] at hc ⊢
  by_cases h4 : I.shrt z.per (zOn z) (zEs z) = true
  · rw [if_pos h4]; exact pstepM_4 P X s YA yn yc z GA gn gc w L ey SG eg gm h1 h2 h3 h4
  · rw [if_neg h4] at hc; omega
theorem st_ok {P : Pc} {s : Ps} {z : Pi} (h : stCode P s z = 0) : plCode P = 0 ∧ InOk s z := by
  unfold stCode at h
  by_cases h1 : plCode P = 0
  · rw [if_neg (by omega)] at h
    exact ⟨h1, in_ok h⟩
  · rw [if_pos h1] at h; omega
theorem pstepM_k (P : Pc) (X : Pa) (s : Ps) (YA : Option Addr) (yn yc : Nat) (z : Pi) (GA : Option Addr) (gn gc : Nat) (w : World) (L : Py w w.heap.size P X) (SY : Sl w w.heap.size 1 YA (rows s.h)) (ey : yn = s.h.length) (SG : Sl w w.heap.size 3 GA (z.es.map I.Ed.row)) (eg : gn = z.es.length) (gm : gn ≤ 1000000) (hc : stCode P s z = 0) :
    Calls Tryz.prog 14 #[.agg #[.int .i64 P.m.r, .int .i64 P.m.m, .slice X.A1 X.n1 X.c1, .slice X.A2 X.n2 X.c2, .slice X.A3 X.n3 X.c3, .slice X.A4 X.n4 X.c4, .int .i64 P.m.p, .int .i64 P.m.s, .int .i64 P.m.f, .int .i64 P.l.num, .int .i64 P.l.den, .int .i64 P.l.sup, .int .i64 P.l.fed, .int .i64 P.l.ohm, .int .i64 P.l.bon, .int .i64 P.l.boff, .int .i64 P.l.bohm, .int .i64 P.g, .int .i64 P.d, .int .i64 P.y, .slice X.B1 X.m1 X.d1, .slice X.B2 X.m2 X.d2, .slice X.B3 X.m3 X.d3, .int .i64 P.wi, .int .i64 P.sw], .agg #[.int .i64 s.fd, .int .i64 s.fq, .int .i64 s.v, .bool s.b, .int .i64 s.po, .int .i64 s.sp, .slice YA yn yc, .int .i64 s.tn], .agg #[.int .i64 z.per, .bool z.b0, .bool z.b1, .bool z.b2, .bool z.b3, .bool z.b4, .bool z.b5, .slice GA gn gc, .int .i64 z.ld, .int .i64 z.amb, .bool z.k0, .bool z.k1, .bool z.k2, .bool z.k3, .bool z.k4, .bool z.k5, .bool z.de, .bool z.nb]] w fun e w' => (∃ A c, e = .returned (.tuple #[.agg #[.int .i64 (pxS P s z).fd, .int .i64 (pxS P s z).fq, .int .i64 (pxS P s z).v, .bool (pxS P s z).b, .int .i64 (pxS P s z).po, .int .i64 (pxS P s z).sp, .slice A 3 c, .int .i64 (pxS P s z).tn], .nilIface]) ∧ Sl w' w'.heap.size 1 A (rows (pxS P s z).h) ∧ (∀ ad, A = some ad → w.heap.size ≤ ad.block)) ∧ Below w.heap.size w w' := by
  obtain ⟨h1, h2⟩ := st_ok hc
  exact pstepM_ok P X s YA yn yc z GA gn gc w L SY ey SG eg gm h1 h2.n h2.c h2.s
theorem pxS_len {P : Pc} {s : Ps} {z : Pi} : (pxS P s z).h.length = 3 := stps_len _ _ _ _ 3
/-- The angle turns by no more than the speed. -/
theorem turn_law (p v : Int) (h1 : -1073741824 ≤ v) (h2 : v ≤ 1073741824) :
    -16384 ≤ difA (angP (wrapP (p + v))) (angP p) ∧ difA (angP (wrapP (p + v))) (angP p) ≤ 16384 ∧ (wrapP (wrapP (p + v)) - wrapP p - v) % 144115188075855872 = 0 ∧
    (angP p + difA (angP (wrapP (p + v))) (angP p) - angP (wrapP (p + v))) % 65536 = 0 := by
  obtain ⟨q, hq⟩ : ∃ q, wrapP p = q := ⟨_, rfl⟩
  have bq := wrapP_bd p
  rw [hq] at bq
  have e2 : wrapP (wrapP (p + v)) = wrapP (p + v) := by unfold wrapP; omega
  have e3 : ∃ k, wrapP (p + v) = q + v + 144115188075855872 * k := by
    refine ⟨(wrapP (p + v) - q - v) / 144115188075855872, ?_⟩
    rw [← hq]; unfold wrapP; omega
  obtain ⟨k, hk⟩ := e3
  have b2 := wrapP_bd (p + v)
  have a1 : angP p = q / 65536 % 65536 := by unfold angP; rw [hq]
  have a2 : angP (wrapP (p + v)) = (q + v + 144115188075855872 * k) / 65536 % 65536 := by unfold angP; rw [e2, hk]
  rw [e2, a2, a1, hk, hq]
  have hd : (q + v + 144115188075855872 * k) / 65536 = (q + v) / 65536 + 2199023255552 * k := by omega
  have hm : ((q + v) / 65536 + 2199023255552 * k) % 65536 = (q + v) / 65536 % 65536 := by omega
  rw [hd, hm]
  have hr : -16384 ≤ (q + v) / 65536 - q / 65536 ∧ (q + v) / 65536 - q / 65536 ≤ 16384 := by omega
  obtain ⟨x, hx⟩ : ∃ x, (q + v) / 65536 = x := ⟨_, rfl⟩
  obtain ⟨y, hy⟩ : ∃ x, q / 65536 = x := ⟨_, rfl⟩
  rw [hx, hy] at hr
  rw [hx, hy]
  unfold difA
  omega
theorem tmod_zero {x m : Int} (h : x % m = 0) : x.tmod m = 0 := Int.tmod_eq_zero_of_dvd (Int.dvd_of_emod_eq_zero h)
theorem nvV_bd (g d y v t l : Int) : -1073741824 ≤ nvV g d y v t l ∧ nvV g d y v t l ≤ 1073741824 := spdV_bd g d y _ _
end Go.Proofs.YtpfkiohknpeifaaGreat
