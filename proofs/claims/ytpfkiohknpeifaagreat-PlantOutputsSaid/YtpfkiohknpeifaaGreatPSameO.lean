/- The walk of the reference's SameOutputs, where both are equal. -/
import Derived.Test.YtpfkiohknpeifaaGreatPSame
import Derived.Test.YtpfkiohknpeifaaGreatPAwake
namespace Go.Proofs.YtpfkiohknpeifaaGreat
open Go.RowKit
set_option maxRecDepth 100000 in
set_option maxHeartbeats 3200000 in
theorem samoR (x y z l t p sp tq : Int) (X : List Int) (A B : Option Addr) (n ca cb : Nat) (w : World) (SA : Sl w w.heap.size 1 A (rows X)) (SB : Sl w w.heap.size 1 B (rows X)) (en : n = X.length) (hn : n ≤ 1000) :
    Calls Tryz.prog 18 #[.agg #[.int .i64 x, .int .i64 y, .int .i64 z, .int .i64 l, .int .i64 t, .int .i64 p, .int .i64 sp, .int .i64 tq, .slice A n ca], .agg #[.int .i64 x, .int .i64 y, .int .i64 z, .int .i64 l, .int .i64 t, .int .i64 p, .int .i64 sp, .int .i64 tq, .slice B n cb]] w fun e w' => e = .returned (.bool true) ∧ Below w.heap.size w w' := by
  have k1 := fun (W : World) (h1 : Sl W W.heap.size 1 A (rows X)) (h2 : Sl W W.heap.size 1 B (rows X)) => intsR X A B n ca cb W h1 h2 en hn
  have K1 := hide k1
  clear k1 en hn
  have HB := Below.refl w.heap.size w
  obtain ⟨w1, eW1, sW1, rs, hb⟩ := box w #[.int .i64 x, .int .i64 y, .int .i64 z, .int .i64 l, .int .i64 t, .int .i64 p, .int .i64 sp, .int .i64 tq, .slice A n ca] 69 (g := w.heap.size) rfl HB (by have := HB.size; omega)
  have Qrs : Hid (w.heap.size ≤ w.heap.size) := Lib.hid (by have := HB.size; omega)
  replace HB := hb
  clear hb
  obtain ⟨w2, eW2, sW2, rt, hb⟩ := box w1 #[.int .i64 x, .int .i64 y, .int .i64 z, .int .i64 l, .int .i64 t, .int .i64 p, .int .i64 sp, .int .i64 tq, .slice B n cb] 69 (g := w.heap.size + 1) sW1 HB (by have := HB.size; omega)
  have Qrt : Hid (w.heap.size ≤ w.heap.size + 1 ∧ w.heap.size < w.heap.size + 1) := Lib.hid ⟨by have := HB.size; omega, by have := rs.lt; omega⟩
  replace rs := rs.al eW2
  replace HB := hb
  clear hb
  go_enter Tryz.func18, Tryz.ntmps18
  have rsc0 := rs.cell 0
  have rsc1 := rs.cell 1
  have rsc2 := rs.cell 2
  have rsc3 := rs.cell 3
  have rsc4 := rs.cell 4
  have rsc5 := rs.cell 5
  have rsc6 := rs.cell 6
  have rsc7 := rs.cell 7
  have rsc8 := rs.cell 8
  have rtc0 := rt.cell 0
  have rtc1 := rt.cell 1
  have rtc2 := rt.cell 2
  have rtc3 := rt.cell 3
  have rtc4 := rt.cell 4
  have rtc5 := rt.cell 5
  have rtc6 := rt.cell 6
  have rtc7 := rt.cell 7
  have rtc8 := rt.cell 8
  have he3 := fun (W : World) => eq_int3 x y z x y z W
  simp only [beq_self_eq_true, Bool.and_self] at he3
  go_wp2_with fail
  with_reducible refine ((unhide K1) _ ((SA.below HB).more HB.size) ((SB.below HB).more HB.size)).mono ?_
  rintro e w3 ⟨rfl, hb⟩
  replace rs := rs.below hb rs.lt
  replace rt := rt.below hb rt.lt
  replace HB := HB.trans (hb.mono HB.size)
  clear hb
  clear rsc0 rsc1 rsc2 rsc3 rsc4 rsc5 rsc6 rsc7 rsc8 rtc0 rtc1 rtc2 rtc3 rtc4 rtc5 rtc6 rtc7 rtc8 eW1 sW1 eW2 sW2
  go_wp2
  go_ret
  exact ⟨rfl, HB⟩
end Go.Proofs.YtpfkiohknpeifaaGreat
