/- The walks of the reference's ints and Same, where both are equal. -/
import Derived.Test.YtpfkiohknpeifaaGreatPPlant
import Derived.Test.YtpfkiohknpeifaaGreatRow
namespace Go.Proofs.YtpfkiohknpeifaaGreat
open Go.RowKit
set_option maxRecDepth 100000 in
set_option maxHeartbeats 1600000 in
theorem intsR (X : List Int) (A B : Option Addr) (n ca cb : Nat) (w : World) (SA : Sl w w.heap.size 1 A (rows X)) (SB : Sl w w.heap.size 1 B (rows X)) (en : n = X.length) (hn : n ≤ 1000) :
    Calls Tryz.prog 33 #[.slice A n ca, .slice B n cb] w fun e w' => e = .returned (.bool true) ∧ Below w.heap.size w w' := by
  have EN := Lib.hid en
  have hb0 := Below.refl w.heap.size w
  clear en
  go_enter Tryz.func33, Tryz.ntmps33
  go_wp2
  go_loopw [5] (fun i wr => ∃ k : Nat, k ≤ n ∧ i = .int .i64 k ∧ Below w.heap.size w wr) (fun i _ => n - (intOf i).toNat)
  case atStart => exact ⟨0, Nat.zero_le _, rfl, hb0⟩
  case round =>
    clear hb0
    obtain ⟨k, hk, rfl, hb⟩ := hrel
    by_cases hlt : k < n
    · obtain ⟨ad, p, rfl, hpa, hpb, p0⟩ := (SA.below hb).at1 (k := k) (by have := EN.out; omega)
      obtain ⟨bd, q, rfl, hqa, hqb, q0⟩ := (SB.below hb).at1 (k := k) (by have := EN.out; omega)
      obtain ⟨x, hx⟩ : ∃ x, g X k = x := ⟨_, rfl⟩
      rw [hx] at p0 q0
      clear hx
      go_wp2_with fail
      refine wp_region_mix 9 (by kernel_rfl) (by kernel_rfl) (fun _ _ _ _ _ h => h) ?_
      simp only [List.take_succ_cons, List.take_zero, List.drop_succ_cons, List.drop_nil]
      repeat still_step
      refine wpStill_nil ?_
      change wpList _ _ _ _ _ wr.drew
      go_wp2
      go_roundw
      case rel => exact ⟨k + 1, by omega, by go_num, hb.drew⟩
      case measure => simp [intOf]; omega
    · obtain rfl : k = n := by omega
      go_wp2
      go_ret
      exact ⟨rfl, hb⟩
set_option maxRecDepth 100000 in
set_option maxHeartbeats 3200000 in
theorem sameR (fd fq v po sp tn : Int) (b : Bool) (X : List Int) (A B : Option Addr) (n ca cb : Nat) (w : World) (SA : Sl w w.heap.size 1 A (rows X)) (SB : Sl w w.heap.size 1 B (rows X)) (en : n = X.length) (hn : n ≤ 1000) :
    Calls Tryz.prog 12 #[.agg #[.int .i64 fd, .int .i64 fq, .int .i64 v, .bool b, .int .i64 po, .int .i64 sp, .slice A n ca, .int .i64 tn], .agg #[.int .i64 fd, .int .i64 fq, .int .i64 v, .bool b, .int .i64 po, .int .i64 sp, .slice B n cb, .int .i64 tn]] w fun e w' => e = .returned (.bool true) ∧ Below w.heap.size w w' := by
  have k1 := fun (W : World) (h1 : Sl W W.heap.size 1 A (rows X)) (h2 : Sl W W.heap.size 1 B (rows X)) => intsR X A B n ca cb W h1 h2 en hn
  have K1 := hide k1
  clear k1 en hn
  have HB := Below.refl w.heap.size w
  obtain ⟨w1, eW1, sW1, rs, hb⟩ := box w #[.int .i64 fd, .int .i64 fq, .int .i64 v, .bool b, .int .i64 po, .int .i64 sp, .slice A n ca, .int .i64 tn] 47 (g := w.heap.size) rfl HB (by have := HB.size; omega)
  have Qrs : Hid (w.heap.size ≤ w.heap.size) := Lib.hid (by have := HB.size; omega)
  replace HB := hb
  clear hb
  obtain ⟨w2, eW2, sW2, rt, hb⟩ := box w1 #[.int .i64 fd, .int .i64 fq, .int .i64 v, .bool b, .int .i64 po, .int .i64 sp, .slice B n cb, .int .i64 tn] 47 (g := w.heap.size + 1) sW1 HB (by have := HB.size; omega)
  have Qrt : Hid (w.heap.size ≤ w.heap.size + 1 ∧ w.heap.size < w.heap.size + 1) := Lib.hid ⟨by have := HB.size; omega, by have := rs.lt; omega⟩
  replace rs := rs.al eW2
  replace HB := hb
  clear hb
  go_enter Tryz.func12, Tryz.ntmps12
  have rsc0 := rs.cell 0
  have rsc1 := rs.cell 1
  have rsc2 := rs.cell 2
  have rsc3 := rs.cell 3
  have rsc4 := rs.cell 4
  have rsc5 := rs.cell 5
  have rsc6 := rs.cell 6
  have rsc7 := rs.cell 7
  have rtc0 := rt.cell 0
  have rtc1 := rt.cell 1
  have rtc2 := rt.cell 2
  have rtc3 := rt.cell 3
  have rtc4 := rt.cell 4
  have rtc5 := rt.cell 5
  have rtc6 := rt.cell 6
  have rtc7 := rt.cell 7
  go_wp2_with fail
  with_reducible refine ((unhide K1) _ ((SA.below HB).more HB.size) ((SB.below HB).more HB.size)).mono ?_
  rintro e w3 ⟨rfl, hb⟩
  replace rs := rs.below hb rs.lt
  replace rt := rt.below hb rt.lt
  replace HB := HB.trans (hb.mono HB.size)
  clear hb
  clear rsc0 rsc1 rsc2 rsc3 rsc4 rsc5 rsc6 rsc7 rtc0 rtc1 rtc2 rtc3 rtc4 rtc5 rtc6 rtc7 eW1 sW1 eW2 sW2
  go_wp2
  go_ret
  exact ⟨rfl, HB⟩
end Go.Proofs.YtpfkiohknpeifaaGreat
