/- The walk of valid. -/
import Derived.Test.YtmmplfokidnpnaaMLaw
namespace Go.Proofs.Ytmmplfokidnpnaa
open Go.RowKit
set_option maxRecDepth 100000 in
set_option maxHeartbeats 3200000 in
theorem valid_large (C : Cf) (A1 A2 A3 A4 : Option Addr) (n1 n2 n3 n4 c1 c2 c3 c4 : Nat) (w : World) (L : Ly w w.heap.size C A1 A2 A3 A4 n1 n2 n3 n4) (hl : lgB n1 n2 n3 n4 = true) :
    Calls Try.prog 25 #[.agg #[.int .i64 C.r, .int .i64 C.m, .slice A1 n1 c1, .slice A2 n2 c2, .slice A3 n3 c3, .slice A4 n4 c4, .int .i64 C.p, .int .i64 C.s, .int .i64 C.f]] w fun e w' => e = .returned (.bool false) ∧ Below w.heap.size w w' := by
  have HB0 := (Below.refl w.heap.size w).alloc (Nat.le_refl _) (.cells #[.int .i64 C.r, .int .i64 C.m, .slice A1 n1 c1, .slice A2 n2 c2, .slice A3 n3 c3, .slice A4 n4 c4, .int .i64 C.p, .int .i64 C.s, .int .i64 C.f] 26)
  have L0 := (L).new (.cells #[.int .i64 C.r, .int .i64 C.m, .slice A1 n1 c1, .slice A2 n2 c2, .slice A3 n3 c3, .slice A4 n4 c4, .int .i64 C.p, .int .i64 C.s, .int .i64 C.f] 26)
  have gc_0 := (Blk.new w 26 #[.int .i64 C.r, .int .i64 C.m, .slice A1 n1 c1, .slice A2 n2 c2, .slice A3 n3 c3, .slice A4 n4 c4, .int .i64 C.p, .int .i64 C.s, .int .i64 C.f])
  have hla := fun (W : World) => large_walk C A1 A2 A3 A4 n1 n2 n3 n4 c1 c2 c3 c4 W
  simp only [hl] at hla
  have HLA := hide hla
  clear hla hl
  go_enter Try.func25, Try.ntmps25
  go_wp2_with fail
  with_reducible refine ((unhide HLA) _).mono ?_
  rintro e w1 ⟨rfl, hb1⟩
  have HB1 := HB0.trans (hb1.mono HB0.size)
  have gc_1 := gc_0.below hb1 gc_0.lt
  have lgc_1 := gc_1.lt
  have L1 := L0.to hb1
  obtain ⟨gcc0, gcc1, gcc2, gcc3, gcc4, gcc5, gcc6, gcc7, gcc8⟩ := gc_1.c9
  go_wp2
  go_ret
  exact ⟨rfl, HB1⟩
set_option maxRecDepth 100000 in
set_option maxHeartbeats 3200000 in
theorem valid_bad (C : Cf) (A1 A2 A3 A4 : Option Addr) (n1 n2 n3 n4 c1 c2 c3 c4 : Nat) (w : World) (L : Ly w w.heap.size C A1 A2 A3 A4 n1 n2 n3 n4) (hl : lgB n1 n2 n3 n4 = false) (hc : cfCode C ≠ 0) :
    Calls Try.prog 25 #[.agg #[.int .i64 C.r, .int .i64 C.m, .slice A1 n1 c1, .slice A2 n2 c2, .slice A3 n3 c3, .slice A4 n4 c4, .int .i64 C.p, .int .i64 C.s, .int .i64 C.f]] w fun e w' => e = .returned (.bool false) ∧ Below w.heap.size w w' := by
  have HB0 := (Below.refl w.heap.size w).alloc (Nat.le_refl _) (.cells #[.int .i64 C.r, .int .i64 C.m, .slice A1 n1 c1, .slice A2 n2 c2, .slice A3 n3 c3, .slice A4 n4 c4, .int .i64 C.p, .int .i64 C.s, .int .i64 C.f] 26)
  have L0 := (L).new (.cells #[.int .i64 C.r, .int .i64 C.m, .slice A1 n1 c1, .slice A2 n2 c2, .slice A3 n3 c3, .slice A4 n4 c4, .int .i64 C.p, .int .i64 C.s, .int .i64 C.f] 26)
  have gc_0 := (Blk.new w 26 #[.int .i64 C.r, .int .i64 C.m, .slice A1 n1 c1, .slice A2 n2 c2, .slice A3 n3 c3, .slice A4 n4 c4, .int .i64 C.p, .int .i64 C.s, .int .i64 C.f])
  obtain ⟨cd, hcd⟩ : ∃ x, cfCode C = x := ⟨_, rfl⟩
  rw [hcd] at hc
  have hla := fun (W : World) => large_walk C A1 A2 A3 A4 n1 n2 n3 n4 c1 c2 c3 c4 W
  simp only [hl] at hla
  have hcr := fun (W : World) (h : Ly W W.heap.size C A1 A2 A3 A4 n1 n2 n3 n4) => chkR C A1 A2 A3 A4 n1 n2 n3 n4 c1 c2 c3 c4 W h
  simp only [hcd] at hcr
  have HLA := hide hla
  have HCR := hide hcr
  clear hla hcr hl hcd
  go_enter Try.func25, Try.ntmps25
  go_wp2_with fail
  with_reducible refine ((unhide HLA) _).mono ?_
  rintro e w1 ⟨rfl, hb1⟩
  have HB1 := HB0.trans (hb1.mono HB0.size)
  have gc_1 := gc_0.below hb1 gc_0.lt
  have lgc_1 := gc_1.lt
  have L1 := L0.to hb1
  obtain ⟨gcc0, gcc1, gcc2, gcc3, gcc4, gcc5, gcc6, gcc7, gcc8⟩ := gc_1.c9
  go_wp2_with fail
  with_reducible refine ((unhide HCR) _ L1).mono ?_
  rintro e w2 ⟨rfl, hb2⟩
  have HB2 := HB1.trans (hb2.mono HB1.size)
  have gc_2 := gc_1.below hb2 gc_1.lt
  have lgc_2 := gc_2.lt
  have L2 := L1.to hb2
  clear gcc0 gcc1 gcc2 gcc3 gcc4 gcc5 gcc6 gcc7 gcc8
  obtain ⟨gcc0, gcc1, gcc2, gcc3, gcc4, gcc5, gcc6, gcc7, gcc8⟩ := gc_2.c9
  go_wp2
  go_ret
  exact ⟨rfl, HB2⟩
set_option maxRecDepth 100000 in
set_option maxHeartbeats 3200000 in
theorem valid_ok (C : Cf) (A1 A2 A3 A4 : Option Addr) (n1 n2 n3 n4 c1 c2 c3 c4 : Nat) (w : World) (L : Ly w w.heap.size C A1 A2 A3 A4 n1 n2 n3 n4) (hl : lgB n1 n2 n3 n4 = false) (hc : cfCode C = 0) :
    Calls Try.prog 25 #[.agg #[.int .i64 C.r, .int .i64 C.m, .slice A1 n1 c1, .slice A2 n2 c2, .slice A3 n3 c3, .slice A4 n4 c4, .int .i64 C.p, .int .i64 C.s, .int .i64 C.f]] w fun e w' => e = .returned (.bool true) ∧ Below w.heap.size w w' := by
  have HB0 := (Below.refl w.heap.size w).alloc (Nat.le_refl _) (.cells #[.int .i64 C.r, .int .i64 C.m, .slice A1 n1 c1, .slice A2 n2 c2, .slice A3 n3 c3, .slice A4 n4 c4, .int .i64 C.p, .int .i64 C.s, .int .i64 C.f] 26)
  have L0 := (L).new (.cells #[.int .i64 C.r, .int .i64 C.m, .slice A1 n1 c1, .slice A2 n2 c2, .slice A3 n3 c3, .slice A4 n4 c4, .int .i64 C.p, .int .i64 C.s, .int .i64 C.f] 26)
  have gc_0 := (Blk.new w 26 #[.int .i64 C.r, .int .i64 C.m, .slice A1 n1 c1, .slice A2 n2 c2, .slice A3 n3 c3, .slice A4 n4 c4, .int .i64 C.p, .int .i64 C.s, .int .i64 C.f])
  have hla := fun (W : World) => large_walk C A1 A2 A3 A4 n1 n2 n3 n4 c1 c2 c3 c4 W
  simp only [hl] at hla
  have hcr := fun (W : World) (h : Ly W W.heap.size C A1 A2 A3 A4 n1 n2 n3 n4) => chkR C A1 A2 A3 A4 n1 n2 n3 n4 c1 c2 c3 c4 W h
  simp only [hc] at hcr
  have hcm := fun (W : World) (h : Ly W W.heap.size C A1 A2 A3 A4 n1 n2 n3 n4) => chkM C A1 A2 A3 A4 n1 n2 n3 n4 c1 c2 c3 c4 W h
  simp only [hc, errV_zero] at hcm
  have HLA := hide hla
  have HCR := hide hcr
  have HCM := hide hcm
  clear hla hcr hcm hl hc
  go_enter Try.func25, Try.ntmps25
  go_wp2_with fail
  with_reducible refine ((unhide HLA) _).mono ?_
  rintro e w1 ⟨rfl, hb1⟩
  have HB1 := HB0.trans (hb1.mono HB0.size)
  have gc_1 := gc_0.below hb1 gc_0.lt
  have lgc_1 := gc_1.lt
  have L1 := L0.to hb1
  obtain ⟨gcc0, gcc1, gcc2, gcc3, gcc4, gcc5, gcc6, gcc7, gcc8⟩ := gc_1.c9
  go_wp2_with fail
  with_reducible refine ((unhide HCR) _ L1).mono ?_
  rintro e w2 ⟨rfl, hb2⟩
  have HB2 := HB1.trans (hb2.mono HB1.size)
  have gc_2 := gc_1.below hb2 gc_1.lt
  have lgc_2 := gc_2.lt
  have L2 := L1.to hb2
  clear gcc0 gcc1 gcc2 gcc3 gcc4 gcc5 gcc6 gcc7 gcc8
  obtain ⟨gcc0, gcc1, gcc2, gcc3, gcc4, gcc5, gcc6, gcc7, gcc8⟩ := gc_2.c9
  go_wp2_with fail
  with_reducible refine ((unhide HCM) _ L2).mono ?_
  rintro e w3 ⟨rfl, hb3⟩
  have HB3 := HB2.trans (hb3.mono HB2.size)
  have gc_3 := gc_2.below hb3 gc_2.lt
  have lgc_3 := gc_3.lt
  have L3 := L2.to hb3
  clear gcc0 gcc1 gcc2 gcc3 gcc4 gcc5 gcc6 gcc7 gcc8
  obtain ⟨gcc0, gcc1, gcc2, gcc3, gcc4, gcc5, gcc6, gcc7, gcc8⟩ := gc_3.c9
  go_wp2
  go_ret
  exact ⟨rfl, HB3⟩
end Go.Proofs.Ytmmplfokidnpnaa
