/- The walks of the turn of a vector, and of the reference's. -/
import Derived.Test.YtmmplfokidnpnaaMSine
import Derived.OwnWalk
namespace Go.Proofs.Ytmmplfokidnpnaa
open Go.RowKit

set_option maxRecDepth 100000 in
theorem turnM (x y n : Int) (hx : -1099511627776 ≤ x ∧ x ≤ 1099511627776) (hy : -1099511627776 ≤ y ∧ y ≤ 1099511627776) (w : World) :
    Calls Try.prog 49 #[.int .i64 x, .int .i64 y, .int .i64 n] w fun e w' => e = .returned (.tuple #[.int .i64 (turnU x y n), .int .i64 (turnV x y n), .nilIface]) ∧ Below w.heap.size w w' := by
  obtain ⟨hx1, hx2⟩ := hx
  obtain ⟨hy1, hy2⟩ := hy
  have bc := cosA_bd n
  have bs := sinA_bd n
  have hbo := fun W => bothM n W
  have hu : turnU x y n = (cosA n * x - sinA n * y).tdiv 32768 := rfl
  have hv : turnV x y n = (sinA n * x + cosA n * y).tdiv 32768 := rfl
  obtain ⟨C, hC⟩ : ∃ c, cosA n = c := ⟨_, rfl⟩
  obtain ⟨S, hS⟩ : ∃ c, sinA n = c := ⟨_, rfl⟩
  simp only [hC, hS] at hbo hu hv bc bs
  have m1 := mul_bd (a := C) (b := x) (A := 65536) (B := 1099511627776) (by omega) (by omega)
  have m2 := mul_bd (a := S) (b := y) (A := 65536) (B := 1099511627776) (by omega) (by omega)
  have m3 := mul_bd (a := S) (b := x) (A := 65536) (B := 1099511627776) (by omega) (by omega)
  have m4 := mul_bd (a := C) (b := y) (A := 65536) (B := 1099511627776) (by omega) (by omega)
  have e1 : IntKind.i64.wrap (C * x) = C * x := IntWalk.i64_in _ (by omega)
  have e2 : IntKind.i64.wrap (S * y) = S * y := IntWalk.i64_in _ (by omega)
  have e3 : IntKind.i64.wrap (S * x) = S * x := IntWalk.i64_in _ (by omega)
  have e4 : IntKind.i64.wrap (C * y) = C * y := IntWalk.i64_in _ (by omega)
  have e5 : IntKind.i64.wrap (C * x - S * y) = C * x - S * y := IntWalk.i64_in _ (by omega)
  have e6 : IntKind.i64.wrap (S * x + C * y) = S * x + C * y := IntWalk.i64_in _ (by omega)
  have d1 := tdiv_in (a := C * x - S * y) (b := 32768) (A := -17592186044416) (B := 17592186044416) (by omega) (by omega) (by omega)
  have d2 := tdiv_in (a := S * x + C * y) (b := 32768) (A := -17592186044416) (B := 17592186044416) (by omega) (by omega) (by omega)
  obtain ⟨U, hU⟩ : ∃ c, (C * x - S * y).tdiv 32768 = c := ⟨_, rfl⟩
  obtain ⟨V, hV⟩ : ∃ c, (S * x + C * y).tdiv 32768 = c := ⟨_, rfl⟩
  rw [hU] at d1 hu
  rw [hV] at d2 hv
  obtain ⟨d1a, d1b⟩ := d1
  obtain ⟨d2a, d2b⟩ := d2
  have HBO := hide hbo
  have HU := Lib.hid hu
  have HV := Lib.hid hv
  clear hbo hu hv hC hS bc bs m1 m2 m3 m4
  go_enter Try.func49, Try.ntmps49
  go_wp2_with fail
  refine ((unhide HBO) _).mono ?_
  rintro e w1 ⟨rfl, hb⟩
  go_wp2
  refine bodyPost_ret (results_tmp3 rfl _ _ _) rfl ⟨?_, hb⟩
  rw [HU.out, HV.out]
  rfl
set_option maxRecDepth 100000 in
theorem turnR (x y n : Int) (hx : -1099511627776 ≤ x ∧ x ≤ 1099511627776) (hy : -1099511627776 ≤ y ∧ y ≤ 1099511627776) (w : World) :
    Calls Try.prog 50 #[.int .i64 x, .int .i64 y, .int .i64 n] w fun e w' => e = .returned (.tuple #[.int .i64 (turnU x y n), .int .i64 (turnV x y n), .int .i64 0]) ∧ Below w.heap.size w w' := by
  obtain ⟨hx1, hx2⟩ := hx
  obtain ⟨hy1, hy2⟩ := hy
  have bc := cosA_bd n
  have bs := sinA_bd n
  have hbo := fun W => bothR n W
  have hu : turnU x y n = (cosA n * x - sinA n * y).tdiv 32768 := rfl
  have hv : turnV x y n = (sinA n * x + cosA n * y).tdiv 32768 := rfl
  obtain ⟨C, hC⟩ : ∃ c, cosA n = c := ⟨_, rfl⟩
  obtain ⟨S, hS⟩ : ∃ c, sinA n = c := ⟨_, rfl⟩
  simp only [hC, hS] at hbo hu hv bc bs
  have m1 := mul_bd (a := C) (b := x) (A := 65536) (B := 1099511627776) (by omega) (by omega)
  have m2 := mul_bd (a := S) (b := y) (A := 65536) (B := 1099511627776) (by omega) (by omega)
  have m3 := mul_bd (a := S) (b := x) (A := 65536) (B := 1099511627776) (by omega) (by omega)
  have m4 := mul_bd (a := C) (b := y) (A := 65536) (B := 1099511627776) (by omega) (by omega)
  have e1 : IntKind.i64.wrap (C * x) = C * x := IntWalk.i64_in _ (by omega)
  have e2 : IntKind.i64.wrap (S * y) = S * y := IntWalk.i64_in _ (by omega)
  have e3 : IntKind.i64.wrap (S * x) = S * x := IntWalk.i64_in _ (by omega)
  have e4 : IntKind.i64.wrap (C * y) = C * y := IntWalk.i64_in _ (by omega)
  have e5 : IntKind.i64.wrap (C * x - S * y) = C * x - S * y := IntWalk.i64_in _ (by omega)
  have e6 : IntKind.i64.wrap (S * x + C * y) = S * x + C * y := IntWalk.i64_in _ (by omega)
  have d1 := tdiv_in (a := C * x - S * y) (b := 32768) (A := -17592186044416) (B := 17592186044416) (by omega) (by omega) (by omega)
  have d2 := tdiv_in (a := S * x + C * y) (b := 32768) (A := -17592186044416) (B := 17592186044416) (by omega) (by omega) (by omega)
  obtain ⟨U, hU⟩ : ∃ c, (C * x - S * y).tdiv 32768 = c := ⟨_, rfl⟩
  obtain ⟨V, hV⟩ : ∃ c, (S * x + C * y).tdiv 32768 = c := ⟨_, rfl⟩
  rw [hU] at d1 hu
  rw [hV] at d2 hv
  obtain ⟨d1a, d1b⟩ := d1
  obtain ⟨d2a, d2b⟩ := d2
  have HBO := hide hbo
  have HU := Lib.hid hu
  have HV := Lib.hid hv
  clear hbo hu hv hC hS bc bs m1 m2 m3 m4
  go_enter Try.func50, Try.ntmps50
  go_wp2_with fail
  refine ((unhide HBO) _).mono ?_
  rintro e w1 ⟨rfl, hb⟩
  go_wp2
  refine bodyPost_ret (results_tmp3 rfl _ _ _) rfl ⟨?_, hb⟩
  rw [HU.out, HV.out]
  rfl
end Go.Proofs.Ytmmplfokidnpnaa
