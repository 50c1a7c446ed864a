/- The walk of the statement MachineRise. -/
import Derived.Test.YtmmplfokidnpnaaMAwake
import Derived.Test.YtmmplfokidnpnaaMRise
namespace Go.Proofs.Ytmmplfokidnpnaa
open Go.RowKit
set_option maxRecDepth 100000 in
set_option maxHeartbeats 3200000 in
theorem machineRise_large (C : Cf) (A1 A2 A3 A4 : Option Addr) (n1 n2 n3 n4 c1 c2 c3 c4 : Nat) (bv bt bc : Int) (w : World) (L : Ly w w.heap.size C A1 A2 A3 A4 n1 n2 n3 n4) (hl : lgB n1 n2 n3 n4 = true) :
    Calls Try.prog 10 #[.agg #[.int .i64 C.r, .int .i64 C.m, .slice A1 n1 c1, .slice A2 n2 c2, .slice A3 n3 c3, .slice A4 n4 c4, .int .i64 C.p, .int .i64 C.s, .int .i64 C.f], .agg #[.int .i64 bv, .int .i64 bt, .int .i64 bc]] w fun e w' => e = .returned (.bool true) ∧ Below w.heap.size w w' := by
  have HB0 := ((Below.refl w.heap.size w).alloc (Nat.le_refl _) (.cells #[.int .i64 C.r, .int .i64 C.m, .slice A1 n1 c1, .slice A2 n2 c2, .slice A3 n3 c3, .slice A4 n4 c4, .int .i64 C.p, .int .i64 C.s, .int .i64 C.f] 26)).alloc (by simp) (.cells #[.int .i64 bv, .int .i64 bt, .int .i64 bc] 65)
  have L0 := ((L).new (.cells #[.int .i64 C.r, .int .i64 C.m, .slice A1 n1 c1, .slice A2 n2 c2, .slice A3 n3 c3, .slice A4 n4 c4, .int .i64 C.p, .int .i64 C.s, .int .i64 C.f] 26)).new (.cells #[.int .i64 bv, .int .i64 bt, .int .i64 bc] 65)
  have gc_0 := ((Blk.new w 26 #[.int .i64 C.r, .int .i64 C.m, .slice A1 n1 c1, .slice A2 n2 c2, .slice A3 n3 c3, .slice A4 n4 c4, .int .i64 C.p, .int .i64 C.s, .int .i64 C.f]).alloc (.cells #[.int .i64 bv, .int .i64 bt, .int .i64 bc] 65))
  have gb_0 := (Blk.new' (w := (w).alloc (.cells #[.int .i64 C.r, .int .i64 C.m, .slice A1 n1 c1, .slice A2 n2 c2, .slice A3 n3 c3, .slice A4 n4 c4, .int .i64 C.p, .int .i64 C.s, .int .i64 C.f] 26)) (t := 65) (cs := #[.int .i64 bv, .int .i64 bt, .int .i64 bc]) (g := w.heap.size + 1) (by simp))
  have hla := fun W => large_walk C A1 A2 A3 A4 n1 n2 n3 n4 c1 c2 c3 c4 W
  simp only [hl] at hla
  have HLA := hide hla
  clear hla hl
  go_enter Try.func10, Try.ntmps10
  go_wp2_with fail
  with_reducible refine (awake_walk _).mono ?_
  rintro e w1 ⟨rfl, hb1⟩
  have HB1 := HB0.trans (hb1.mono HB0.size)
  have gc_1 := gc_0.below hb1 gc_0.lt
  have lgc_1 := gc_1.lt
  have gb_1 := gb_0.below hb1 gb_0.lt
  have lgb_1 := gb_1.lt
  have L1 := L0.to hb1
  obtain ⟨gcc0, gcc1, gcc2, gcc3, gcc4, gcc5, gcc6, gcc7, gcc8⟩ := gc_1.c9
  obtain ⟨gbc0, gbc1, gbc2⟩ := gb_1.c3
  go_wp2_with fail
  with_reducible refine ((unhide HLA) _).mono ?_
  rintro e w2 ⟨rfl, hb2⟩
  have HB2 := HB1.trans (hb2.mono HB1.size)
  have gc_2 := gc_1.below hb2 gc_1.lt
  have lgc_2 := gc_2.lt
  have gb_2 := gb_1.below hb2 gb_1.lt
  have lgb_2 := gb_2.lt
  have L2 := L1.to hb2
  clear gcc0 gcc1 gcc2 gcc3 gcc4 gcc5 gcc6 gcc7 gcc8 gbc0 gbc1 gbc2
  obtain ⟨gcc0, gcc1, gcc2, gcc3, gcc4, gcc5, gcc6, gcc7, gcc8⟩ := gc_2.c9
  obtain ⟨gbc0, gbc1, gbc2⟩ := gb_2.c3
  go_wp2_with fail
  with_reducible refine (awake_walk _).mono ?_
  rintro e w3 ⟨rfl, hb3⟩
  have HB3 := HB2.trans (hb3.mono HB2.size)
  have gc_3 := gc_2.below hb3 gc_2.lt
  have lgc_3 := gc_3.lt
  have gb_3 := gb_2.below hb3 gb_2.lt
  have lgb_3 := gb_3.lt
  have L3 := L2.to hb3
  go_wp2
  go_ret
  exact ⟨rfl, HB3⟩
set_option maxRecDepth 100000 in
set_option maxHeartbeats 3200000 in
theorem machineRise_bad (C : Cf) (A1 A2 A3 A4 : Option Addr) (n1 n2 n3 n4 c1 c2 c3 c4 : Nat) (bv bt bc : Int) (w : World) (L : Ly w w.heap.size C A1 A2 A3 A4 n1 n2 n3 n4) (hl : lgB n1 n2 n3 n4 = false) (hc : cfCode C ≠ 0) :
    Calls Try.prog 10 #[.agg #[.int .i64 C.r, .int .i64 C.m, .slice A1 n1 c1, .slice A2 n2 c2, .slice A3 n3 c3, .slice A4 n4 c4, .int .i64 C.p, .int .i64 C.s, .int .i64 C.f], .agg #[.int .i64 bv, .int .i64 bt, .int .i64 bc]] w fun e w' => e = .returned (.bool true) ∧ Below w.heap.size w w' := by
  have HB0 := ((Below.refl w.heap.size w).alloc (Nat.le_refl _) (.cells #[.int .i64 C.r, .int .i64 C.m, .slice A1 n1 c1, .slice A2 n2 c2, .slice A3 n3 c3, .slice A4 n4 c4, .int .i64 C.p, .int .i64 C.s, .int .i64 C.f] 26)).alloc (by simp) (.cells #[.int .i64 bv, .int .i64 bt, .int .i64 bc] 65)
  have L0 := ((L).new (.cells #[.int .i64 C.r, .int .i64 C.m, .slice A1 n1 c1, .slice A2 n2 c2, .slice A3 n3 c3, .slice A4 n4 c4, .int .i64 C.p, .int .i64 C.s, .int .i64 C.f] 26)).new (.cells #[.int .i64 bv, .int .i64 bt, .int .i64 bc] 65)
  have gc_0 := ((Blk.new w 26 #[.int .i64 C.r, .int .i64 C.m, .slice A1 n1 c1, .slice A2 n2 c2, .slice A3 n3 c3, .slice A4 n4 c4, .int .i64 C.p, .int .i64 C.s, .int .i64 C.f]).alloc (.cells #[.int .i64 bv, .int .i64 bt, .int .i64 bc] 65))
  have gb_0 := (Blk.new' (w := (w).alloc (.cells #[.int .i64 C.r, .int .i64 C.m, .slice A1 n1 c1, .slice A2 n2 c2, .slice A3 n3 c3, .slice A4 n4 c4, .int .i64 C.p, .int .i64 C.s, .int .i64 C.f] 26)) (t := 65) (cs := #[.int .i64 bv, .int .i64 bt, .int .i64 bc]) (g := w.heap.size + 1) (by simp))
  obtain ⟨cd, hcd⟩ : ∃ x, cfCode C = x := ⟨_, rfl⟩
  have hc2 := hc
  rw [hcd] at hc2
  have hla := fun (W : World) => large_walk C A1 A2 A3 A4 n1 n2 n3 n4 c1 c2 c3 c4 W
  simp only [hl] at hla
  have hst := fun (W : World) (h : Ly W W.heap.size C A1 A2 A3 A4 n1 n2 n3 n4) => riseM_bad C A1 A2 A3 A4 n1 n2 n3 n4 c1 c2 c3 c4 bv bt bc W h hc
  simp only [hcd, errV_ne hc2] at hst
  have hcr := fun (W : World) (h : Ly W W.heap.size C A1 A2 A3 A4 n1 n2 n3 n4) => chkR C A1 A2 A3 A4 n1 n2 n3 n4 c1 c2 c3 c4 W h
  simp only [hcd] at hcr
  have HLA := hide hla
  have HST := hide hst
  have HCR := hide hcr
  clear hla hst hcr hl hc hcd
  go_enter Try.func10, Try.ntmps10
  go_wp2_with fail
  with_reducible refine (awake_walk _).mono ?_
  rintro e w1 ⟨rfl, hb1⟩
  have HB1 := HB0.trans (hb1.mono HB0.size)
  have gc_1 := gc_0.below hb1 gc_0.lt
  have lgc_1 := gc_1.lt
  have gb_1 := gb_0.below hb1 gb_0.lt
  have lgb_1 := gb_1.lt
  have L1 := L0.to hb1
  obtain ⟨gcc0, gcc1, gcc2, gcc3, gcc4, gcc5, gcc6, gcc7, gcc8⟩ := gc_1.c9
  obtain ⟨gbc0, gbc1, gbc2⟩ := gb_1.c3
  go_wp2_with fail
  with_reducible refine ((unhide HLA) _).mono ?_
  rintro e w2 ⟨rfl, hb2⟩
  have HB2 := HB1.trans (hb2.mono HB1.size)
  have gc_2 := gc_1.below hb2 gc_1.lt
  have lgc_2 := gc_2.lt
  have gb_2 := gb_1.below hb2 gb_1.lt
  have lgb_2 := gb_2.lt
  have L2 := L1.to hb2
  clear gcc0 gcc1 gcc2 gcc3 gcc4 gcc5 gcc6 gcc7 gcc8 gbc0 gbc1 gbc2
  obtain ⟨gcc0, gcc1, gcc2, gcc3, gcc4, gcc5, gcc6, gcc7, gcc8⟩ := gc_2.c9
  obtain ⟨gbc0, gbc1, gbc2⟩ := gb_2.c3
  go_wp2_with fail
  with_reducible refine ((unhide HST) _ L2).mono ?_
  rintro e w3 ⟨rfl, hb3⟩
  have HB3 := HB2.trans (hb3.mono HB2.size)
  have gc_3 := gc_2.below hb3 gc_2.lt
  have lgc_3 := gc_3.lt
  have gb_3 := gb_2.below hb3 gb_2.lt
  have lgb_3 := gb_3.lt
  have L3 := L2.to hb3
  clear gcc0 gcc1 gcc2 gcc3 gcc4 gcc5 gcc6 gcc7 gcc8 gbc0 gbc1 gbc2
  obtain ⟨gcc0, gcc1, gcc2, gcc3, gcc4, gcc5, gcc6, gcc7, gcc8⟩ := gc_3.c9
  obtain ⟨gbc0, gbc1, gbc2⟩ := gb_3.c3
  go_wp2_with fail
  with_reducible refine ((unhide HCR) _ L3).mono ?_
  rintro e w4 ⟨rfl, hb4⟩
  have HB4 := HB3.trans (hb4.mono HB3.size)
  have gc_4 := gc_3.below hb4 gc_3.lt
  have lgc_4 := gc_4.lt
  have gb_4 := gb_3.below hb4 gb_3.lt
  have lgb_4 := gb_4.lt
  have L4 := L3.to hb4
  clear gcc0 gcc1 gcc2 gcc3 gcc4 gcc5 gcc6 gcc7 gcc8 gbc0 gbc1 gbc2
  obtain ⟨gcc0, gcc1, gcc2, gcc3, gcc4, gcc5, gcc6, gcc7, gcc8⟩ := gc_4.c9
  obtain ⟨gbc0, gbc1, gbc2⟩ := gb_4.c3
  go_wp2_with (first | (go_at_call 16; refine (num_iface _ _).mono ?_; rintro e w' ⟨rfl, rfl⟩))
  go_ret
  exact ⟨rfl, HB4⟩
set_option maxRecDepth 100000 in
set_option maxHeartbeats 3200000 in
theorem machineRise_bound (C : Cf) (a1 a2 a3 a4 : Addr) (n k c1 c2 c3 c4 : Nat) (bv bt bc : Int) (w : World) (L : Ly w w.heap.size C (some a1) (some a2) (some a3) (some a4) n n k k) (hl : lgB n n k k = false) (hc : cfCode C = 0) (hbd : bdCode bv bt bc ≠ 0) :
    Calls Try.prog 10 #[.agg #[.int .i64 C.r, .int .i64 C.m, .slice (some a1) n c1, .slice (some a2) n c2, .slice (some a3) k c3, .slice (some a4) k c4, .int .i64 C.p, .int .i64 C.s, .int .i64 C.f], .agg #[.int .i64 bv, .int .i64 bt, .int .i64 bc]] w fun e w' => e = .returned (.bool true) ∧ Below w.heap.size w w' := by
  have HB0 := ((Below.refl w.heap.size w).alloc (Nat.le_refl _) (.cells #[.int .i64 C.r, .int .i64 C.m, .slice (some a1) n c1, .slice (some a2) n c2, .slice (some a3) k c3, .slice (some a4) k c4, .int .i64 C.p, .int .i64 C.s, .int .i64 C.f] 26)).alloc (by simp) (.cells #[.int .i64 bv, .int .i64 bt, .int .i64 bc] 65)
  have L0 := ((L).new (.cells #[.int .i64 C.r, .int .i64 C.m, .slice (some a1) n c1, .slice (some a2) n c2, .slice (some a3) k c3, .slice (some a4) k c4, .int .i64 C.p, .int .i64 C.s, .int .i64 C.f] 26)).new (.cells #[.int .i64 bv, .int .i64 bt, .int .i64 bc] 65)
  have gc_0 := ((Blk.new w 26 #[.int .i64 C.r, .int .i64 C.m, .slice (some a1) n c1, .slice (some a2) n c2, .slice (some a3) k c3, .slice (some a4) k c4, .int .i64 C.p, .int .i64 C.s, .int .i64 C.f]).alloc (.cells #[.int .i64 bv, .int .i64 bt, .int .i64 bc] 65))
  have gb_0 := (Blk.new' (w := (w).alloc (.cells #[.int .i64 C.r, .int .i64 C.m, .slice (some a1) n c1, .slice (some a2) n c2, .slice (some a3) k c3, .slice (some a4) k c4, .int .i64 C.p, .int .i64 C.s, .int .i64 C.f] 26)) (t := 65) (cs := #[.int .i64 bv, .int .i64 bt, .int .i64 bc]) (g := w.heap.size + 1) (by simp))
  have ok := cf_ok hc
  have h3 : bdCode bv bt bc = 3 := by
    unfold bdCode at *
    split at hbd
    · contradiction
    · rename_i hx; rw [if_neg hx]
  have hla := fun (W : World) => large_walk C (some a1) (some a2) (some a3) (some a4) n n k k c1 c2 c3 c4 W
  simp only [hl] at hla
  have hst := fun (W : World) (h : Ly W W.heap.size C (some a1) (some a2) (some a3) (some a4) n n k k) => riseM_bound C a1 a2 a3 a4 n k c1 c2 c3 c4 bv bt bc W h hc hbd
  have hcr := fun (W : World) (h : Ly W W.heap.size C (some a1) (some a2) (some a3) (some a4) n n k k) => chkR C (some a1) (some a2) (some a3) (some a4) n n k k c1 c2 c3 c4 W h
  simp only [hc] at hcr
  have hbr := fun (W : World) => boundsR bv bt bc W
  simp only [h3] at hbr
  have HLA := hide hla
  have HST := hide hst
  have HCR := hide hcr
  have HBR := hide hbr
  clear hla hst hcr hbr hl hc ok hbd h3
  go_enter Try.func10, Try.ntmps10
  go_wp2_with fail
  with_reducible refine (awake_walk _).mono ?_
  rintro e w1 ⟨rfl, hb1⟩
  have HB1 := HB0.trans (hb1.mono HB0.size)
  have gc_1 := gc_0.below hb1 gc_0.lt
  have lgc_1 := gc_1.lt
  have gb_1 := gb_0.below hb1 gb_0.lt
  have lgb_1 := gb_1.lt
  have L1 := L0.to hb1
  obtain ⟨gcc0, gcc1, gcc2, gcc3, gcc4, gcc5, gcc6, gcc7, gcc8⟩ := gc_1.c9
  obtain ⟨gbc0, gbc1, gbc2⟩ := gb_1.c3
  go_wp2_with fail
  with_reducible refine ((unhide HLA) _).mono ?_
  rintro e w2 ⟨rfl, hb2⟩
  have HB2 := HB1.trans (hb2.mono HB1.size)
  have gc_2 := gc_1.below hb2 gc_1.lt
  have lgc_2 := gc_2.lt
  have gb_2 := gb_1.below hb2 gb_1.lt
  have lgb_2 := gb_2.lt
  have L2 := L1.to hb2
  clear gcc0 gcc1 gcc2 gcc3 gcc4 gcc5 gcc6 gcc7 gcc8 gbc0 gbc1 gbc2
  obtain ⟨gcc0, gcc1, gcc2, gcc3, gcc4, gcc5, gcc6, gcc7, gcc8⟩ := gc_2.c9
  obtain ⟨gbc0, gbc1, gbc2⟩ := gb_2.c3
  go_wp2_with fail
  with_reducible refine ((unhide HST) _ L2).mono ?_
  rintro e w3 ⟨rfl, hb3⟩
  have HB3 := HB2.trans (hb3.mono HB2.size)
  have gc_3 := gc_2.below hb3 gc_2.lt
  have lgc_3 := gc_3.lt
  have gb_3 := gb_2.below hb3 gb_2.lt
  have lgb_3 := gb_3.lt
  have L3 := L2.to hb3
  clear gcc0 gcc1 gcc2 gcc3 gcc4 gcc5 gcc6 gcc7 gcc8 gbc0 gbc1 gbc2
  obtain ⟨gcc0, gcc1, gcc2, gcc3, gcc4, gcc5, gcc6, gcc7, gcc8⟩ := gc_3.c9
  obtain ⟨gbc0, gbc1, gbc2⟩ := gb_3.c3
  go_wp2_with fail
  with_reducible refine ((unhide HCR) _ L3).mono ?_
  rintro e w4 ⟨rfl, hb4⟩
  have HB4 := HB3.trans (hb4.mono HB3.size)
  have gc_4 := gc_3.below hb4 gc_3.lt
  have lgc_4 := gc_4.lt
  have gb_4 := gb_3.below hb4 gb_3.lt
  have lgb_4 := gb_4.lt
  have L4 := L3.to hb4
  clear gcc0 gcc1 gcc2 gcc3 gcc4 gcc5 gcc6 gcc7 gcc8 gbc0 gbc1 gbc2
  obtain ⟨gcc0, gcc1, gcc2, gcc3, gcc4, gcc5, gcc6, gcc7, gcc8⟩ := gc_4.c9
  obtain ⟨gbc0, gbc1, gbc2⟩ := gb_4.c3
  go_wp2_with fail
  with_reducible refine ((unhide HBR) _).mono ?_
  rintro e w5 ⟨rfl, hb5⟩
  have HB5 := HB4.trans (hb5.mono HB4.size)
  have gc_5 := gc_4.below hb5 gc_4.lt
  have lgc_5 := gc_5.lt
  have gb_5 := gb_4.below hb5 gb_4.lt
  have lgb_5 := gb_5.lt
  have L5 := L4.to hb5
  clear gcc0 gcc1 gcc2 gcc3 gcc4 gcc5 gcc6 gcc7 gcc8 gbc0 gbc1 gbc2
  obtain ⟨gcc0, gcc1, gcc2, gcc3, gcc4, gcc5, gcc6, gcc7, gcc8⟩ := gc_5.c9
  obtain ⟨gbc0, gbc1, gbc2⟩ := gb_5.c3
  go_wp2_with (first | (go_at_call 16; refine (num_iface _ _).mono ?_; rintro e w' ⟨rfl, rfl⟩))
  go_ret
  exact ⟨rfl, HB5⟩
set_option maxRecDepth 100000 in
set_option maxHeartbeats 3200000 in
theorem machineRise_fine (C : Cf) (a1 a2 a3 a4 : Addr) (n k c1 c2 c3 c4 : Nat) (bv bt bc : Int) (w : World) (L : Ly w w.heap.size C (some a1) (some a2) (some a3) (some a4) n n k k) (hl : lgB n n k k = false) (hc : cfCode C = 0) (hbd : bdCode bv bt bc = 0) :
    Calls Try.prog 10 #[.agg #[.int .i64 C.r, .int .i64 C.m, .slice (some a1) n c1, .slice (some a2) n c2, .slice (some a3) k c3, .slice (some a4) k c4, .int .i64 C.p, .int .i64 C.s, .int .i64 C.f], .agg #[.int .i64 bv, .int .i64 bt, .int .i64 bc]] w fun e w' => e = .returned (.bool true) ∧ Below w.heap.size w w' := by
  have HB0 := ((Below.refl w.heap.size w).alloc (Nat.le_refl _) (.cells #[.int .i64 C.r, .int .i64 C.m, .slice (some a1) n c1, .slice (some a2) n c2, .slice (some a3) k c3, .slice (some a4) k c4, .int .i64 C.p, .int .i64 C.s, .int .i64 C.f] 26)).alloc (by simp) (.cells #[.int .i64 bv, .int .i64 bt, .int .i64 bc] 65)
  have L0 := ((L).new (.cells #[.int .i64 C.r, .int .i64 C.m, .slice (some a1) n c1, .slice (some a2) n c2, .slice (some a3) k c3, .slice (some a4) k c4, .int .i64 C.p, .int .i64 C.s, .int .i64 C.f] 26)).new (.cells #[.int .i64 bv, .int .i64 bt, .int .i64 bc] 65)
  have gc_0 := ((Blk.new w 26 #[.int .i64 C.r, .int .i64 C.m, .slice (some a1) n c1, .slice (some a2) n c2, .slice (some a3) k c3, .slice (some a4) k c4, .int .i64 C.p, .int .i64 C.s, .int .i64 C.f]).alloc (.cells #[.int .i64 bv, .int .i64 bt, .int .i64 bc] 65))
  have gb_0 := (Blk.new' (w := (w).alloc (.cells #[.int .i64 C.r, .int .i64 C.m, .slice (some a1) n c1, .slice (some a2) n c2, .slice (some a3) k c3, .slice (some a4) k c4, .int .i64 C.p, .int .i64 C.s, .int .i64 C.f] 26)) (t := 65) (cs := #[.int .i64 bv, .int .i64 bt, .int .i64 bc]) (g := w.heap.size + 1) (by simp))
  have ok := cf_ok hc
  obtain ⟨x, hx⟩ : ∃ x, riI C bv bt bc = x := ⟨_, rfl⟩
  have hla := fun (W : World) => large_walk C (some a1) (some a2) (some a3) (some a4) n n k k c1 c2 c3 c4 W
  simp only [hl] at hla
  have hst := fun (W : World) (h : Ly W W.heap.size C (some a1) (some a2) (some a3) (some a4) n n k k) => riseM C a1 a2 a3 a4 n k c1 c2 c3 c4 bv bt bc W h hc hbd
  simp only [hx] at hst
  have hcr := fun (W : World) (h : Ly W W.heap.size C (some a1) (some a2) (some a3) (some a4) n n k k) => chkR C (some a1) (some a2) (some a3) (some a4) n n k k c1 c2 c3 c4 W h
  simp only [hc] at hcr
  have hbr := fun (W : World) => boundsR bv bt bc W
  simp only [hbd] at hbr
  have hrr := fun (W : World) (h : Ly W W.heap.size C (some a1) (some a2) (some a3) (some a4) n n k k) => riseR C a1 a2 a3 a4 n k c1 c2 c3 c4 bv bt bc W h ok hbd
  simp only [hx] at hrr
  have HLA := hide hla
  have HST := hide hst
  have HCR := hide hcr
  have HBR := hide hbr
  have HRR := hide hrr
  clear hla hst hcr hbr hrr hl hc ok hbd hx
  go_enter Try.func10, Try.ntmps10
  go_wp2_with fail
  with_reducible refine (awake_walk _).mono ?_
  rintro e w1 ⟨rfl, hb1⟩
  have HB1 := HB0.trans (hb1.mono HB0.size)
  have gc_1 := gc_0.below hb1 gc_0.lt
  have lgc_1 := gc_1.lt
  have gb_1 := gb_0.below hb1 gb_0.lt
  have lgb_1 := gb_1.lt
  have L1 := L0.to hb1
  obtain ⟨gcc0, gcc1, gcc2, gcc3, gcc4, gcc5, gcc6, gcc7, gcc8⟩ := gc_1.c9
  obtain ⟨gbc0, gbc1, gbc2⟩ := gb_1.c3
  go_wp2_with fail
  with_reducible refine ((unhide HLA) _).mono ?_
  rintro e w2 ⟨rfl, hb2⟩
  have HB2 := HB1.trans (hb2.mono HB1.size)
  have gc_2 := gc_1.below hb2 gc_1.lt
  have lgc_2 := gc_2.lt
  have gb_2 := gb_1.below hb2 gb_1.lt
  have lgb_2 := gb_2.lt
  have L2 := L1.to hb2
  clear gcc0 gcc1 gcc2 gcc3 gcc4 gcc5 gcc6 gcc7 gcc8 gbc0 gbc1 gbc2
  obtain ⟨gcc0, gcc1, gcc2, gcc3, gcc4, gcc5, gcc6, gcc7, gcc8⟩ := gc_2.c9
  obtain ⟨gbc0, gbc1, gbc2⟩ := gb_2.c3
  go_wp2_with fail
  with_reducible refine ((unhide HST) _ L2).mono ?_
  rintro e w3 ⟨rfl, hb3⟩
  have HB3 := HB2.trans (hb3.mono HB2.size)
  have gc_3 := gc_2.below hb3 gc_2.lt
  have lgc_3 := gc_3.lt
  have gb_3 := gb_2.below hb3 gb_2.lt
  have lgb_3 := gb_3.lt
  have L3 := L2.to hb3
  clear gcc0 gcc1 gcc2 gcc3 gcc4 gcc5 gcc6 gcc7 gcc8 gbc0 gbc1 gbc2
  obtain ⟨gcc0, gcc1, gcc2, gcc3, gcc4, gcc5, gcc6, gcc7, gcc8⟩ := gc_3.c9
  obtain ⟨gbc0, gbc1, gbc2⟩ := gb_3.c3
  go_wp2_with fail
  with_reducible refine ((unhide HCR) _ L3).mono ?_
  rintro e w4 ⟨rfl, hb4⟩
  have HB4 := HB3.trans (hb4.mono HB3.size)
  have gc_4 := gc_3.below hb4 gc_3.lt
  have lgc_4 := gc_4.lt
  have gb_4 := gb_3.below hb4 gb_3.lt
  have lgb_4 := gb_4.lt
  have L4 := L3.to hb4
  clear gcc0 gcc1 gcc2 gcc3 gcc4 gcc5 gcc6 gcc7 gcc8 gbc0 gbc1 gbc2
  obtain ⟨gcc0, gcc1, gcc2, gcc3, gcc4, gcc5, gcc6, gcc7, gcc8⟩ := gc_4.c9
  obtain ⟨gbc0, gbc1, gbc2⟩ := gb_4.c3
  go_wp2_with fail
  with_reducible refine ((unhide HBR) _).mono ?_
  rintro e w5 ⟨rfl, hb5⟩
  have HB5 := HB4.trans (hb5.mono HB4.size)
  have gc_5 := gc_4.below hb5 gc_4.lt
  have lgc_5 := gc_5.lt
  have gb_5 := gb_4.below hb5 gb_4.lt
  have lgb_5 := gb_5.lt
  have L5 := L4.to hb5
  clear gcc0 gcc1 gcc2 gcc3 gcc4 gcc5 gcc6 gcc7 gcc8 gbc0 gbc1 gbc2
  obtain ⟨gcc0, gcc1, gcc2, gcc3, gcc4, gcc5, gcc6, gcc7, gcc8⟩ := gc_5.c9
  obtain ⟨gbc0, gbc1, gbc2⟩ := gb_5.c3
  go_wp2_with fail
  with_reducible refine ((unhide HRR) _ L5).mono ?_
  rintro e w6 ⟨rfl, hb6⟩
  have HB6 := HB5.trans (hb6.mono HB5.size)
  have gc_6 := gc_5.below hb6 gc_5.lt
  have lgc_6 := gc_6.lt
  have gb_6 := gb_5.below hb6 gb_5.lt
  have lgb_6 := gb_6.lt
  have L6 := L5.to hb6
  clear gcc0 gcc1 gcc2 gcc3 gcc4 gcc5 gcc6 gcc7 gcc8 gbc0 gbc1 gbc2
  obtain ⟨gcc0, gcc1, gcc2, gcc3, gcc4, gcc5, gcc6, gcc7, gcc8⟩ := gc_6.c9
  obtain ⟨gbc0, gbc1, gbc2⟩ := gb_6.c3
  go_wp2
  go_ret
  exact ⟨rfl, HB6⟩
theorem machineRise_walk (C : Cf) (A1 A2 A3 A4 : Option Addr) (n1 n2 n3 n4 c1 c2 c3 c4 : Nat) (bv bt bc : Int) (w : World) (L : Ly w w.heap.size C A1 A2 A3 A4 n1 n2 n3 n4) :
    Calls Try.prog 10 #[.agg #[.int .i64 C.r, .int .i64 C.m, .slice A1 n1 c1, .slice A2 n2 c2, .slice A3 n3 c3, .slice A4 n4 c4, .int .i64 C.p, .int .i64 C.s, .int .i64 C.f], .agg #[.int .i64 bv, .int .i64 bt, .int .i64 bc]] w fun e w' => e = .returned (.bool true) ∧ Below w.heap.size w w' := by
  cases hl : lgB n1 n2 n3 n4 with
  | true => exact machineRise_large C A1 A2 A3 A4 n1 n2 n3 n4 c1 c2 c3 c4 bv bt bc w L hl
  | false =>
    by_cases hc : cfCode C = 0
    · obtain ⟨a1, a2, a3, a4, rfl, rfl, rfl, rfl, rfl, rfl⟩ := L.ptrs (cf_ok hc)
      by_cases hbd : bdCode bv bt bc = 0
      · exact machineRise_fine C a1 a2 a3 a4 _ _ c1 c2 c3 c4 bv bt bc w L hl hc hbd
      · exact machineRise_bound C a1 a2 a3 a4 _ _ c1 c2 c3 c4 bv bt bc w L hl hc hbd
    · exact machineRise_bad C A1 A2 A3 A4 n1 n2 n3 n4 c1 c2 c3 c4 bv bt bc w L hl hc
end Go.Proofs.Ytmmplfokidnpnaa
