/- The walk of the statement MachinePhases. -/
import Derived.Test.YtmmplfokidnpnaaMAwake
import Derived.Test.YtmmplfokidnpnaaMPhase
import Derived.Test.YtmmplfokidnpnaaMOff
import Derived.Deep.RegionHeld3
import Derived.BigRegion
import Derived.ChangeKeysEq
namespace Go.Proofs.Ytmmplfokidnpnaa
open Go.RowKit
theorem Try.infoInt : (Try.prog.info? 3).map (fun i => (i.zero, i.size, i.bytes)) = some (some (.int .i64 0), 1, 8) := by kernel_rfl
theorem Try.cellsInt' : Try.prog.cellsOf 3 = 1 := by kernel_rfl
set_option maxRecDepth 100000 in
theorem eq_ints3 (a b c a' b' c' : Int) (w : World) : (binOp .eql 55 (.agg #[.int .i64 a, .int .i64 b, .int .i64 c]) (.agg #[.int .i64 a', .int .i64 b', .int .i64 c'])).run Try.prog w = .ok (.bool (a == a' && (b == b' && c == c'))) w := by
  obtain ⟨i0, hi, hz0, hz1, hz2⟩ := info_parts Try.infoInt
  rw [run_eql_struct, show (10000 : Nat) = 9999 + 1 from rfl, run_equalIn_array _ 9999 _ _ Try.underlying55 hi, Try.cellsInt']
  have h1 := fun (x y : Int) (w : World) => run_equalIn_int (P := Try.prog) w 9998 3 .i64 .i64 x y Try.underlying3
  simp only [Nat.reduceAdd] at h1
  have hr : List.range 3 = [0, 1, 2] := by decide
  rw [hr]
  by_cases e0 : a = a' <;> by_cases e1 : b = b' <;> by_cases e2 : c = c' <;> simp [Op.eqItems, go_sem, h1, e0, e1, e2]
set_option maxRecDepth 100000 in
set_option maxHeartbeats 3200000 in
theorem machinePhases_large (C : Cf) (A1 A2 A3 A4 : Option Addr) (n1 n2 n3 n4 c1 c2 c3 c4 : Nat) (fd fq an : Int) (w : World) (L : Ly w w.heap.size C A1 A2 A3 A4 n1 n2 n3 n4) (hl : lgB n1 n2 n3 n4 = true) :
    Calls Try.prog 7 #[.agg #[.int .i64 C.r, .int .i64 C.m, .slice A1 n1 c1, .slice A2 n2 c2, .slice A3 n3 c3, .slice A4 n4 c4, .int .i64 C.p, .int .i64 C.s, .int .i64 C.f], .agg #[.int .i64 fd, .int .i64 fq], .int .i64 an] w fun e w' => e = .returned (.bool true) ∧ Below w.heap.size w w' := by
  have HB0 := ((Below.refl w.heap.size w).alloc (Nat.le_refl _) (.cells #[.int .i64 C.r, .int .i64 C.m, .slice A1 n1 c1, .slice A2 n2 c2, .slice A3 n3 c3, .slice A4 n4 c4, .int .i64 C.p, .int .i64 C.s, .int .i64 C.f] 26)).alloc (by simp) (.cells #[.int .i64 fd, .int .i64 fq] 33)
  have L0 := ((L).new (.cells #[.int .i64 C.r, .int .i64 C.m, .slice A1 n1 c1, .slice A2 n2 c2, .slice A3 n3 c3, .slice A4 n4 c4, .int .i64 C.p, .int .i64 C.s, .int .i64 C.f] 26)).new (.cells #[.int .i64 fd, .int .i64 fq] 33)
  have gc_0 := ((Blk.new w 26 #[.int .i64 C.r, .int .i64 C.m, .slice A1 n1 c1, .slice A2 n2 c2, .slice A3 n3 c3, .slice A4 n4 c4, .int .i64 C.p, .int .i64 C.s, .int .i64 C.f]).alloc (.cells #[.int .i64 fd, .int .i64 fq] 33))
  have gs_0 := (Blk.new' (w := (w).alloc (.cells #[.int .i64 C.r, .int .i64 C.m, .slice A1 n1 c1, .slice A2 n2 c2, .slice A3 n3 c3, .slice A4 n4 c4, .int .i64 C.p, .int .i64 C.s, .int .i64 C.f] 26)) (t := 33) (cs := #[.int .i64 fd, .int .i64 fq]) (g := w.heap.size + 1) (by simp))
  have hla := fun W => large_walk C A1 A2 A3 A4 n1 n2 n3 n4 c1 c2 c3 c4 W
  simp only [hl] at hla
  have HLA := hide hla
  clear hla hl
  go_enter Try.func7, Try.ntmps7
  go_wp2_with fail
  with_reducible refine (awake_walk _).mono ?_
  rintro e w1 ⟨rfl, hb1⟩
  have HB1 := HB0.trans (hb1.mono HB0.size)
  have gc_1 := gc_0.below hb1 gc_0.lt
  have lgc_1 := gc_1.lt
  have gs_1 := gs_0.below hb1 gs_0.lt
  have lgs_1 := gs_1.lt
  have L1 := L0.to hb1
  obtain ⟨gcc0, gcc1, gcc2, gcc3, gcc4, gcc5, gcc6, gcc7, gcc8⟩ := gc_1.c9
  obtain ⟨gsc0, gsc1⟩ := gs_1.c2
  go_wp2_with fail
  with_reducible refine ((unhide HLA) _).mono ?_
  rintro e w2 ⟨rfl, hb2⟩
  have HB2 := HB1.trans (hb2.mono HB1.size)
  have gc_2 := gc_1.below hb2 gc_1.lt
  have lgc_2 := gc_2.lt
  have gs_2 := gs_1.below hb2 gs_1.lt
  have lgs_2 := gs_2.lt
  have L2 := L1.to hb2
  clear gcc0 gcc1 gcc2 gcc3 gcc4 gcc5 gcc6 gcc7 gcc8 gsc0 gsc1
  obtain ⟨gcc0, gcc1, gcc2, gcc3, gcc4, gcc5, gcc6, gcc7, gcc8⟩ := gc_2.c9
  obtain ⟨gsc0, gsc1⟩ := gs_2.c2
  go_wp2_with fail
  with_reducible refine (awake_walk _).mono ?_
  rintro e w3 ⟨rfl, hb3⟩
  have HB3 := HB2.trans (hb3.mono HB2.size)
  have gc_3 := gc_2.below hb3 gc_2.lt
  have lgc_3 := gc_3.lt
  have gs_3 := gs_2.below hb3 gs_2.lt
  have lgs_3 := gs_3.lt
  have L3 := L2.to hb3
  go_wp2
  go_ret
  exact ⟨rfl, HB3⟩
set_option maxRecDepth 100000 in
set_option maxHeartbeats 3200000 in
theorem machinePhases_bad (C : Cf) (A1 A2 A3 A4 : Option Addr) (n1 n2 n3 n4 c1 c2 c3 c4 : Nat) (fd fq an : Int) (w : World) (L : Ly w w.heap.size C A1 A2 A3 A4 n1 n2 n3 n4) (hl : lgB n1 n2 n3 n4 = false) (hc : cfCode C ≠ 0) :
    Calls Try.prog 7 #[.agg #[.int .i64 C.r, .int .i64 C.m, .slice A1 n1 c1, .slice A2 n2 c2, .slice A3 n3 c3, .slice A4 n4 c4, .int .i64 C.p, .int .i64 C.s, .int .i64 C.f], .agg #[.int .i64 fd, .int .i64 fq], .int .i64 an] w fun e w' => e = .returned (.bool true) ∧ Below w.heap.size w w' := by
  have HB0 := ((Below.refl w.heap.size w).alloc (Nat.le_refl _) (.cells #[.int .i64 C.r, .int .i64 C.m, .slice A1 n1 c1, .slice A2 n2 c2, .slice A3 n3 c3, .slice A4 n4 c4, .int .i64 C.p, .int .i64 C.s, .int .i64 C.f] 26)).alloc (by simp) (.cells #[.int .i64 fd, .int .i64 fq] 33)
  have L0 := ((L).new (.cells #[.int .i64 C.r, .int .i64 C.m, .slice A1 n1 c1, .slice A2 n2 c2, .slice A3 n3 c3, .slice A4 n4 c4, .int .i64 C.p, .int .i64 C.s, .int .i64 C.f] 26)).new (.cells #[.int .i64 fd, .int .i64 fq] 33)
  have gc_0 := ((Blk.new w 26 #[.int .i64 C.r, .int .i64 C.m, .slice A1 n1 c1, .slice A2 n2 c2, .slice A3 n3 c3, .slice A4 n4 c4, .int .i64 C.p, .int .i64 C.s, .int .i64 C.f]).alloc (.cells #[.int .i64 fd, .int .i64 fq] 33))
  have gs_0 := (Blk.new' (w := (w).alloc (.cells #[.int .i64 C.r, .int .i64 C.m, .slice A1 n1 c1, .slice A2 n2 c2, .slice A3 n3 c3, .slice A4 n4 c4, .int .i64 C.p, .int .i64 C.s, .int .i64 C.f] 26)) (t := 33) (cs := #[.int .i64 fd, .int .i64 fq]) (g := w.heap.size + 1) (by simp))
  obtain ⟨cd, hcd⟩ : ∃ x, cfCode C = x := ⟨_, rfl⟩
  have hc2 := hc
  rw [hcd] at hc2
  have hla := fun (W : World) => large_walk C A1 A2 A3 A4 n1 n2 n3 n4 c1 c2 c3 c4 W
  simp only [hl] at hla
  have hst := fun (W : World) (h : Ly W W.heap.size C A1 A2 A3 A4 n1 n2 n3 n4) => phasesM_bad C A1 A2 A3 A4 n1 n2 n3 n4 c1 c2 c3 c4 fd fq an W h hc
  simp only [hcd, errV_ne hc2] at hst
  have hcr := fun (W : World) (h : Ly W W.heap.size C A1 A2 A3 A4 n1 n2 n3 n4) => chkR C A1 A2 A3 A4 n1 n2 n3 n4 c1 c2 c3 c4 W h
  simp only [hcd] at hcr
  have HLA := hide hla
  have HST := hide hst
  have HCR := hide hcr
  clear hla hst hcr hl hc hcd
  go_enter Try.func7, Try.ntmps7
  go_wp2_with fail
  with_reducible refine (awake_walk _).mono ?_
  rintro e w1 ⟨rfl, hb1⟩
  have HB1 := HB0.trans (hb1.mono HB0.size)
  have gc_1 := gc_0.below hb1 gc_0.lt
  have lgc_1 := gc_1.lt
  have gs_1 := gs_0.below hb1 gs_0.lt
  have lgs_1 := gs_1.lt
  have L1 := L0.to hb1
  obtain ⟨gcc0, gcc1, gcc2, gcc3, gcc4, gcc5, gcc6, gcc7, gcc8⟩ := gc_1.c9
  obtain ⟨gsc0, gsc1⟩ := gs_1.c2
  go_wp2_with fail
  with_reducible refine ((unhide HLA) _).mono ?_
  rintro e w2 ⟨rfl, hb2⟩
  have HB2 := HB1.trans (hb2.mono HB1.size)
  have gc_2 := gc_1.below hb2 gc_1.lt
  have lgc_2 := gc_2.lt
  have gs_2 := gs_1.below hb2 gs_1.lt
  have lgs_2 := gs_2.lt
  have L2 := L1.to hb2
  clear gcc0 gcc1 gcc2 gcc3 gcc4 gcc5 gcc6 gcc7 gcc8 gsc0 gsc1
  obtain ⟨gcc0, gcc1, gcc2, gcc3, gcc4, gcc5, gcc6, gcc7, gcc8⟩ := gc_2.c9
  obtain ⟨gsc0, gsc1⟩ := gs_2.c2
  go_wp2_with fail
  with_reducible refine ((unhide HST) _ L2).mono ?_
  rintro e w3 ⟨rfl, hb3⟩
  have HB3 := HB2.trans (hb3.mono HB2.size)
  have gc_3 := gc_2.below hb3 gc_2.lt
  have lgc_3 := gc_3.lt
  have gs_3 := gs_2.below hb3 gs_2.lt
  have lgs_3 := gs_3.lt
  have L3 := L2.to hb3
  clear gcc0 gcc1 gcc2 gcc3 gcc4 gcc5 gcc6 gcc7 gcc8 gsc0 gsc1
  obtain ⟨gcc0, gcc1, gcc2, gcc3, gcc4, gcc5, gcc6, gcc7, gcc8⟩ := gc_3.c9
  obtain ⟨gsc0, gsc1⟩ := gs_3.c2
  have lgc_3p : w.heap.size < w3.heap.size + 1 := by have := gc_3.lt; omega
  have lgs_3p : w.heap.size + 1 < w3.heap.size + 1 := by have := gs_3.lt; omega
  go_wp2_with fail
  with_reducible refine ((unhide HCR) _ (L3.new _)).mono ?_
  rintro e w4 ⟨rfl, hb4⟩
  have HB4 := (HB3.alloc HB3.size _).trans (hb4.mono (by simp; have := HB3.size; omega))
  have gc_4 := (gc_3.alloc _).below hb4 (gc_3.alloc _).lt
  have lgc_4 := gc_4.lt
  have gs_4 := (gs_3.alloc _).below hb4 (gs_3.alloc _).lt
  have lgs_4 := gs_4.lt
  have gt_4 := (Blk.new w3 55 #[.int .i64 0, .int .i64 0, .int .i64 0]).below hb4 (Blk.new w3 55 #[.int .i64 0, .int .i64 0, .int .i64 0]).lt
  have lgt_4 := gt_4.lt
  have L4 := (L3.new _).to hb4
  clear gcc0 gcc1 gcc2 gcc3 gcc4 gcc5 gcc6 gcc7 gcc8 gsc0 gsc1
  obtain ⟨gcc0, gcc1, gcc2, gcc3, gcc4, gcc5, gcc6, gcc7, gcc8⟩ := gc_4.c9
  obtain ⟨gsc0, gsc1⟩ := gs_4.c2
  obtain ⟨gtc0, gtc1, gtc2⟩ := gt_4.c3
  have hq := fun w => eq_ints3 0 0 0 0 0 0 w
  go_wp2_with (first | (go_at_call 16; refine (num_iface _ _).mono ?_; rintro e w' ⟨rfl, rfl⟩))
  go_ret
  exact ⟨rfl, HB4⟩
/-- What lies in memory at the end. -/
structure PU (w0 w : World) (C : Cf) (a1 a2 a3 a4 : Addr) (n k c1 c2 c3 c4 : Nat) (g : Nat) (fd fq x y z : Int) : Prop where
  p : Blk w (w0.heap.size) 26 #[.int .i64 C.r, .int .i64 C.m, .slice (some a1) n c1, .slice (some a2) n c2, .slice (some a3) k c3, .slice (some a4) k c4, .int .i64 C.p, .int .i64 C.s, .int .i64 C.f]
  q : Blk w (w0.heap.size + 1) 33 #[.int .i64 fd, .int .i64 fq]
  i : Blk w (g) 55 #[.int .i64 x, .int .i64 y, .int .i64 z]
  b : Below w0.heap.size w0 w
  l : Ly w w0.heap.size C (some a1) (some a2) (some a3) (some a4) n n k k
section
variable {w0 w w' : World} {C : Cf} {a1 a2 a3 a4 : Addr} {n k c1 c2 c3 c4 : Nat} {g : Nat} {fd fq x y z : Int}
theorem PU.all (h : PU w0 w C a1 a2 a3 a4 n k c1 c2 c3 c4 g fd fq x y z) : PU w0 w C a1 a2 a3 a4 n k c1 c2 c3 c4 g fd fq x y z ∧ w.cell? ⟨w0.heap.size, 0, none⟩ = some (.int .i64 C.r) ∧ w.cell? ⟨w0.heap.size, 1, none⟩ = some (.int .i64 C.m) ∧ w.cell? ⟨w0.heap.size, 2, none⟩ = some (.slice (some a1) n c1) ∧ w.cell? ⟨w0.heap.size, 3, none⟩ = some (.slice (some a2) n c2) ∧ w.cell? ⟨w0.heap.size, 4, none⟩ = some (.slice (some a3) k c3) ∧ w.cell? ⟨w0.heap.size, 5, none⟩ = some (.slice (some a4) k c4) ∧ w.cell? ⟨w0.heap.size, 6, none⟩ = some (.int .i64 C.p) ∧ w.cell? ⟨w0.heap.size, 7, none⟩ = some (.int .i64 C.s) ∧ w.cell? ⟨w0.heap.size, 8, none⟩ = some (.int .i64 C.f) ∧ w.cell? ⟨w0.heap.size + 1, 0, none⟩ = some (.int .i64 fd) ∧ w.cell? ⟨w0.heap.size + 1, 1, none⟩ = some (.int .i64 fq) ∧ w.cell? ⟨g, 0, none⟩ = some (.int .i64 x) ∧ w.cell? ⟨g, 1, none⟩ = some (.int .i64 y) ∧ w.cell? ⟨g, 2, none⟩ = some (.int .i64 z) := ⟨h, h.p.cell 0, h.p.cell 1, h.p.cell 2, h.p.cell 3, h.p.cell 4, h.p.cell 5, h.p.cell 6, h.p.cell 7, h.p.cell 8, h.q.cell 0, h.q.cell 1, h.i.cell 0, h.i.cell 1, h.i.cell 2⟩
theorem PU.drew (h : PU w0 w C a1 a2 a3 a4 n k c1 c2 c3 c4 g fd fq x y z) : PU w0 w.drew C a1 a2 a3 a4 n k c1 c2 c3 c4 g fd fq x y z := ⟨h.p.drew, h.q.drew, h.i.drew, h.b.drew, h.l.drew⟩
theorem PU.one {Q : Prop} (h : PU w0 w C a1 a2 a3 a4 n k c1 c2 c3 c4 g fd fq x y z ∧ Q) : PU w0 w C a1 a2 a3 a4 n k c1 c2 c3 c4 g fd fq x y z := h.1
theorem PU.below (hb : Below w.heap.size w w') (h : PU w0 w C a1 a2 a3 a4 n k c1 c2 c3 c4 g fd fq x y z) : PU w0 w' C a1 a2 a3 a4 n k c1 c2 c3 c4 g fd fq x y z := ⟨h.p.below hb h.p.lt, h.q.below hb h.q.lt, h.i.below hb h.i.lt, h.b.trans (hb.mono h.b.size), h.l.below (hb.mono h.b.size)⟩
theorem PU.ly (h : PU w0 w C a1 a2 a3 a4 n k c1 c2 c3 c4 g fd fq x y z) : Ly w w.heap.size C (some a1) (some a2) (some a3) (some a4) n n k k := h.l.more h.b.size
end
set_option maxRecDepth 100000 in
set_option maxHeartbeats 3200000 in
theorem machinePhases_ok (C : Cf) (a1 a2 a3 a4 : Addr) (n k c1 c2 c3 c4 : Nat) (fd fq an : Int) (w : World) (L : Ly w w.heap.size C (some a1) (some a2) (some a3) (some a4) n n k k) (hl : lgB n n k k = false) (hc : cfCode C = 0) :
    Calls Try.prog 7 #[.agg #[.int .i64 C.r, .int .i64 C.m, .slice (some a1) n c1, .slice (some a2) n c2, .slice (some a3) k c3, .slice (some a4) k c4, .int .i64 C.p, .int .i64 C.s, .int .i64 C.f], .agg #[.int .i64 fd, .int .i64 fq], .int .i64 an] w fun e w' => e = .returned (.bool true) ∧ Below w.heap.size w w' := by
  have HB0 := ((Below.refl w.heap.size w).alloc (Nat.le_refl _) (.cells #[.int .i64 C.r, .int .i64 C.m, .slice (some a1) n c1, .slice (some a2) n c2, .slice (some a3) k c3, .slice (some a4) k c4, .int .i64 C.p, .int .i64 C.s, .int .i64 C.f] 26)).alloc (by simp) (.cells #[.int .i64 fd, .int .i64 fq] 33)
  have L0 := ((L).new (.cells #[.int .i64 C.r, .int .i64 C.m, .slice (some a1) n c1, .slice (some a2) n c2, .slice (some a3) k c3, .slice (some a4) k c4, .int .i64 C.p, .int .i64 C.s, .int .i64 C.f] 26)).new (.cells #[.int .i64 fd, .int .i64 fq] 33)
  have gc_0 := ((Blk.new w 26 #[.int .i64 C.r, .int .i64 C.m, .slice (some a1) n c1, .slice (some a2) n c2, .slice (some a3) k c3, .slice (some a4) k c4, .int .i64 C.p, .int .i64 C.s, .int .i64 C.f]).alloc (.cells #[.int .i64 fd, .int .i64 fq] 33))
  have gs_0 := (Blk.new' (w := (w).alloc (.cells #[.int .i64 C.r, .int .i64 C.m, .slice (some a1) n c1, .slice (some a2) n c2, .slice (some a3) k c3, .slice (some a4) k c4, .int .i64 C.p, .int .i64 C.s, .int .i64 C.f] 26)) (t := 33) (cs := #[.int .i64 fd, .int .i64 fq]) (g := w.heap.size + 1) (by simp))
  have ok := cf_ok hc
  have bi := curD_bd ok fd
  have bj := curQ_bd ok fq
  have hlen := phases_len (curD C fd) (curQ C fq) an _ rfl
  change (_ ≤ phU C fd fq an ∧ phU C fd fq an ≤ _) ∧ (_ ≤ phB (phU C fd fq an) (phV C fd fq an) ∧ phB (phU C fd fq an) (phV C fd fq an) ≤ _) ∧ (_ ≤ -phU C fd fq an - phB (phU C fd fq an) (phV C fd fq an) ∧ -phU C fd fq an - phB (phU C fd fq an) (phV C fd fq an) ≤ _) at hlen
  have hsm : phU C fd fq an + phB (phU C fd fq an) (phV C fd fq an) + (-phU C fd fq an - phB (phU C fd fq an) (phV C fd fq an)) = 0 := by omega
  have hm := upN_bd (n := (curD C fd * curD C fd + curQ C fq * curQ C fq).toNat) (by
    have s1 := mul_bd (a := curD C fd) (b := curD C fd) (A := 1048576) (B := 1048576) bi bi
    have s2 := mul_bd (a := curQ C fq) (b := curQ C fq) (A := 1048576) (B := 1048576) bj bj
    omega)
  have hab := fun W => aboveR (curD C fd) (curQ C fq) (by omega) (by omega) W
  obtain ⟨m, hmm⟩ : ∃ m : Int, ((lenI (curD C fd) (curQ C fq) : Nat) : Int) = m := ⟨_, rfl⟩
  have bm : 0 ≤ m ∧ m ≤ 2147483649 := by rw [← hmm]; unfold lenI; omega
  simp only [hmm] at hab hlen
  obtain ⟨x, hx⟩ : ∃ x, phU C fd fq an = x := ⟨_, rfl⟩
  rw [hx] at hlen hsm
  obtain ⟨y, hy⟩ : ∃ y, phB x (phV C fd fq an) = y := ⟨_, rfl⟩
  rw [hy] at hlen hsm
  obtain ⟨z, hz⟩ : ∃ z, -x - y = z := ⟨_, rfl⟩
  rw [hz] at hlen hsm
  obtain ⟨⟨l1, l2⟩, ⟨l3, l4⟩, ⟨l5, l6⟩⟩ := hlen
  have e1 : IntKind.i64.wrap (x + y) = x + y := IntWalk.i64_in _ (by omega)
  have e2 : IntKind.i64.wrap (x + y + z) = 0 := by rw [hsm]; decide
  obtain ⟨I, hI⟩ : ∃ x, curD C fd = x := ⟨_, rfl⟩
  obtain ⟨J, hJ⟩ : ∃ x, curQ C fq = x := ⟨_, rfl⟩
  simp only [hI, hJ] at hab
  clear hm bi bj
  have hla := fun (W : World) => large_walk C (some a1) (some a2) (some a3) (some a4) n n k k c1 c2 c3 c4 W
  simp only [hl] at hla
  have hst := fun (W : World) (h : Ly W W.heap.size C (some a1) (some a2) (some a3) (some a4) n n k k) => phasesM C a1 a2 a3 a4 n k c1 c2 c3 c4 fd fq an W h hc
  simp only [hx, hy, hz] at hst
  have hcr := fun (W : World) (h : Ly W W.heap.size C (some a1) (some a2) (some a3) (some a4) n n k k) => chkR C (some a1) (some a2) (some a3) (some a4) n n k k c1 c2 c3 c4 W h
  simp only [hc] at hcr
  have hcu := fun (W : World) (h : Ly W W.heap.size C (some a1) (some a2) (some a3) (some a4) n n k k) => currentsR C a1 a2 a3 a4 n k c1 c2 c3 c4 fd fq W h ok
  simp only [hI, hJ] at hcu
  have hsr := fun (W : World) (h : Ly W W.heap.size C (some a1) (some a2) (some a3) (some a4) n n k k) => phasesR C a1 a2 a3 a4 n k c1 c2 c3 c4 fd fq an W h ok
  simp only [hx, hy, hz] at hsr
  have HLA := hide hla
  have HST := hide hst
  have HCR := hide hcr
  have HCU := hide hcu
  have HSR := hide hsr
  clear hla hst hcr hcu hsr hl hc ok hx hy hz hI hJ hmm
  have HAB := hide hab
  clear hab
  go_enter Try.func7, Try.ntmps7
  go_wp2_with fail
  with_reducible refine (awake_walk _).mono ?_
  rintro e w1 ⟨rfl, hb1⟩
  have HB1 := HB0.trans (hb1.mono HB0.size)
  have gc_1 := gc_0.below hb1 gc_0.lt
  have lgc_1 := gc_1.lt
  have gs_1 := gs_0.below hb1 gs_0.lt
  have lgs_1 := gs_1.lt
  have L1 := L0.to hb1
  obtain ⟨gcc0, gcc1, gcc2, gcc3, gcc4, gcc5, gcc6, gcc7, gcc8⟩ := gc_1.c9
  obtain ⟨gsc0, gsc1⟩ := gs_1.c2
  go_wp2_with fail
  with_reducible refine ((unhide HLA) _).mono ?_
  rintro e w2 ⟨rfl, hb2⟩
  have HB2 := HB1.trans (hb2.mono HB1.size)
  have gc_2 := gc_1.below hb2 gc_1.lt
  have lgc_2 := gc_2.lt
  have gs_2 := gs_1.below hb2 gs_1.lt
  have lgs_2 := gs_2.lt
  have L2 := L1.to hb2
  clear gcc0 gcc1 gcc2 gcc3 gcc4 gcc5 gcc6 gcc7 gcc8 gsc0 gsc1
  obtain ⟨gcc0, gcc1, gcc2, gcc3, gcc4, gcc5, gcc6, gcc7, gcc8⟩ := gc_2.c9
  obtain ⟨gsc0, gsc1⟩ := gs_2.c2
  go_wp2_with fail
  with_reducible refine ((unhide HST) _ L2).mono ?_
  rintro e w3 ⟨rfl, hb3⟩
  have HB3 := HB2.trans (hb3.mono HB2.size)
  have gc_3 := gc_2.below hb3 gc_2.lt
  have lgc_3 := gc_3.lt
  have gs_3 := gs_2.below hb3 gs_2.lt
  have lgs_3 := gs_3.lt
  have L3 := L2.to hb3
  clear gcc0 gcc1 gcc2 gcc3 gcc4 gcc5 gcc6 gcc7 gcc8 gsc0 gsc1
  obtain ⟨gcc0, gcc1, gcc2, gcc3, gcc4, gcc5, gcc6, gcc7, gcc8⟩ := gc_3.c9
  obtain ⟨gsc0, gsc1⟩ := gs_3.c2
  have lgc_3p : w.heap.size < w3.heap.size + 1 := by have := gc_3.lt; omega
  have lgs_3p : w.heap.size + 1 < w3.heap.size + 1 := by have := gs_3.lt; omega
  go_wp2_with fail
  with_reducible refine ((unhide HCR) _ (L3.new _)).mono ?_
  rintro e w4 ⟨rfl, hb4⟩
  have HB4 := (HB3.alloc HB3.size _).trans (hb4.mono (by simp; have := HB3.size; omega))
  have gc_4 := (gc_3.alloc _).below hb4 (gc_3.alloc _).lt
  have lgc_4 := gc_4.lt
  have gs_4 := (gs_3.alloc _).below hb4 (gs_3.alloc _).lt
  have lgs_4 := gs_4.lt
  have gt_4 := (Blk.new w3 55 #[.int .i64 x, .int .i64 y, .int .i64 z]).below hb4 (Blk.new w3 55 #[.int .i64 x, .int .i64 y, .int .i64 z]).lt
  have lgt_4 := gt_4.lt
  have L4 := (L3.new _).to hb4
  clear gcc0 gcc1 gcc2 gcc3 gcc4 gcc5 gcc6 gcc7 gcc8 gsc0 gsc1
  obtain ⟨gcc0, gcc1, gcc2, gcc3, gcc4, gcc5, gcc6, gcc7, gcc8⟩ := gc_4.c9
  obtain ⟨gsc0, gsc1⟩ := gs_4.c2
  obtain ⟨gtc0, gtc1, gtc2⟩ := gt_4.c3
  go_wp2_with fail
  with_reducible refine ((unhide HCU) _ L4).mono ?_
  rintro e w5 ⟨rfl, hb5⟩
  have HB5 := HB4.trans (hb5.mono HB4.size)
  have gc_5 := gc_4.below hb5 gc_4.lt
  have lgc_5 := gc_5.lt
  have gs_5 := gs_4.below hb5 gs_4.lt
  have lgs_5 := gs_5.lt
  have gt_5 := gt_4.below hb5 gt_4.lt
  have lgt_5 := gt_5.lt
  have L5 := L4.to hb5
  clear gcc0 gcc1 gcc2 gcc3 gcc4 gcc5 gcc6 gcc7 gcc8 gsc0 gsc1 gtc0 gtc1 gtc2
  obtain ⟨gcc0, gcc1, gcc2, gcc3, gcc4, gcc5, gcc6, gcc7, gcc8⟩ := gc_5.c9
  obtain ⟨gsc0, gsc1⟩ := gs_5.c2
  obtain ⟨gtc0, gtc1, gtc2⟩ := gt_5.c3
  have lgc_5p : w.heap.size < w5.heap.size + 1 := by have := gc_5.lt; omega
  have lgs_5p : w.heap.size + 1 < w5.heap.size + 1 := by have := gs_5.lt; omega
  have lgt_5p : w3.heap.size < w5.heap.size + 1 := by have := gt_5.lt; omega
  go_wp2_with fail
  with_reducible refine ((unhide HAB) _).mono ?_
  rintro e w6 ⟨rfl, hb6⟩
  have HB6 := (HB5.alloc HB5.size _).trans (hb6.mono (by simp; have := HB5.size; omega))
  have gc_6 := (gc_5.alloc _).below hb6 (gc_5.alloc _).lt
  have lgc_6 := gc_6.lt
  have gs_6 := (gs_5.alloc _).below hb6 (gs_5.alloc _).lt
  have lgs_6 := gs_6.lt
  have gt_6 := (gt_5.alloc _).below hb6 (gt_5.alloc _).lt
  have lgt_6 := gt_6.lt
  have gi_6 := (Blk.new w5 31 #[.int .i64 I, .int .i64 J]).below hb6 (Blk.new w5 31 #[.int .i64 I, .int .i64 J]).lt
  have lgi_6 := gi_6.lt
  have L6 := (L5.new _).to hb6
  clear gcc0 gcc1 gcc2 gcc3 gcc4 gcc5 gcc6 gcc7 gcc8 gsc0 gsc1 gtc0 gtc1 gtc2
  obtain ⟨gcc0, gcc1, gcc2, gcc3, gcc4, gcc5, gcc6, gcc7, gcc8⟩ := gc_6.c9
  obtain ⟨gsc0, gsc1⟩ := gs_6.c2
  obtain ⟨gtc0, gtc1, gtc2⟩ := gt_6.c3
  obtain ⟨gic0, gic1⟩ := gi_6.c2
  have hq := fun w => eq_ints3 x y z x y z w
  go_wp2
  go_loopw [13] (fun u wr => (u = .int .i64 0 ∨ u = .int .i64 1 ∨ u = .int .i64 2 ∨ u = .int .i64 3) ∧ wr = w6) (fun u _ => 3 - (intOf u).toNat)
  case atStart => exact ⟨.inl rfl, rfl⟩
  case round =>
  obtain ⟨hu, rfl⟩ := hrel
  rcases hu with rfl | rfl | rfl | rfl
  · go_wp2
    go_roundw
    case rel => exact ⟨.inr (.inl rfl), trivial⟩
    case measure => simp [intOf]
  · go_wp2
    go_roundw
    case rel => exact ⟨.inr (.inr (.inl rfl)), trivial⟩
    case measure => simp [intOf]
  · go_wp2
    go_roundw
    case rel => exact ⟨.inr (.inr (.inr rfl)), trivial⟩
    case measure => simp [intOf]
  · go_wp2
    have has : PU w wr C a1 a2 a3 a4 n k c1 c2 c3 c4 w3.heap.size fd fq x y z := ⟨gc_6, gs_6, gt_6, HB6, L.below HB6⟩
    go_region_held3 (fun w' => PU w w' C a1 a2 a3 a4 n k c1 c2 c3 c4 w3.heap.size fd fq x y z ∧ w'.cell? ⟨w.heap.size, 0, none⟩ = some (.int .i64 C.r) ∧ w'.cell? ⟨w.heap.size, 1, none⟩ = some (.int .i64 C.m) ∧ w'.cell? ⟨w.heap.size, 2, none⟩ = some (.slice (some a1) n c1) ∧ w'.cell? ⟨w.heap.size, 3, none⟩ = some (.slice (some a2) n c2) ∧ w'.cell? ⟨w.heap.size, 4, none⟩ = some (.slice (some a3) k c3) ∧ w'.cell? ⟨w.heap.size, 5, none⟩ = some (.slice (some a4) k c4) ∧ w'.cell? ⟨w.heap.size, 6, none⟩ = some (.int .i64 C.p) ∧ w'.cell? ⟨w.heap.size, 7, none⟩ = some (.int .i64 C.s) ∧ w'.cell? ⟨w.heap.size, 8, none⟩ = some (.int .i64 C.f) ∧ w'.cell? ⟨w.heap.size + 1, 0, none⟩ = some (.int .i64 fd) ∧ w'.cell? ⟨w.heap.size + 1, 1, none⟩ = some (.int .i64 fq) ∧ w'.cell? ⟨w3.heap.size, 0, none⟩ = some (.int .i64 x) ∧ w'.cell? ⟨w3.heap.size, 1, none⟩ = some (.int .i64 y) ∧ w'.cell? ⟨w3.heap.size, 2, none⟩ = some (.int .i64 z))
      (first | (refine PU.all ?_; repeat (first | with_reducible exact has | with_reducible exact hasA | with_reducible refine PU.drew ?_)))
      (first | (go_at_call 29; (with_reducible refine ((unhide HSR) _ (PU.ly (PU.one ‹PU w _ _ _ _ _ _ _ _ _ _ _ _ _ _ _ _ _ _ ∧ _›))).mono ?_); rintro e wA ⟨rfl, hbA⟩; have hasA := PU.below hbA (PU.one ‹PU w _ _ _ _ _ _ _ _ _ _ _ _ _ _ _ _ _ _ ∧ _›)))
    all_goals
      go_wp2
      go_ret
      exact ⟨rfl, hasA.b⟩
theorem machinePhases_walk (C : Cf) (A1 A2 A3 A4 : Option Addr) (n1 n2 n3 n4 c1 c2 c3 c4 : Nat) (fd fq an : Int) (w : World) (L : Ly w w.heap.size C A1 A2 A3 A4 n1 n2 n3 n4) :
    Calls Try.prog 7 #[.agg #[.int .i64 C.r, .int .i64 C.m, .slice A1 n1 c1, .slice A2 n2 c2, .slice A3 n3 c3, .slice A4 n4 c4, .int .i64 C.p, .int .i64 C.s, .int .i64 C.f], .agg #[.int .i64 fd, .int .i64 fq], .int .i64 an] w fun e w' => e = .returned (.bool true) ∧ Below w.heap.size w w' := by
  cases hl : lgB n1 n2 n3 n4 with
  | true => exact machinePhases_large C A1 A2 A3 A4 n1 n2 n3 n4 c1 c2 c3 c4 fd fq an w L hl
  | false =>
    by_cases hc : cfCode C = 0
    · obtain ⟨a1, a2, a3, a4, rfl, rfl, rfl, rfl, rfl, rfl⟩ := L.ptrs (cf_ok hc)
      exact machinePhases_ok C a1 a2 a3 a4 _ _ c1 c2 c3 c4 fd fq an w L hl hc
    · exact machinePhases_bad C A1 A2 A3 A4 n1 n2 n3 n4 c1 c2 c3 c4 fd fq an w L hl hc
end Go.Proofs.Ytmmplfokidnpnaa
