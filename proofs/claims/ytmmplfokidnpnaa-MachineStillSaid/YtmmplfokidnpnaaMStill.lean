/- The walk of the statement MachineStill. -/
import Derived.Test.YtmmplfokidnpnaaMAwake
import Derived.Test.YtmmplfokidnpnaaMValid
import Derived.Deep.RegionHeld3
import Derived.Deep.CutRange
namespace Go.Proofs.Ytmmplfokidnpnaa
open Go.RowKit
theorem turn_none (x y : Int) {a : Int} (h : a % 65536 = 0) : turnU x y a = x ∧ turnV x y a = y := by
  have e : a % 65536 = 0 % 65536 := by omega
  have c0 : cosA 0 = 32768 := by decide +kernel
  have s0 : sinA 0 = 0 := by decide +kernel
  rw [turnU_mod x y e, turnV_mod x y e]
  unfold turnU turnV
  rw [c0, s0, Int.zero_mul, Int.zero_mul, Int.sub_zero, Int.zero_add, Int.mul_comm 32768 x, Int.mul_comm 32768 y, Int.mul_tdiv_cancel _ (by omega), Int.mul_tdiv_cancel _ (by omega)]
  exact ⟨rfl, rfl⟩
theorem st_none {C : Cf} (ok : CfOk C) (hr : C.r = 0) (fd fq tn : Int) (ht : tn % 65536 = 0) :
    C.m + inX C.dx (stD C fd fq 0 tn - C.m) = C.m + devD C fd ∧ inX C.qx (stQ C fd fq 0 tn) = devQ C fq := by
  have e : (-tn) % 65536 = 0 := by omega
  have h0 : clipI 0 (-1048576) 1048576 = 0 := by decide
  have h1 := inX_in ok.d (clipI fd (-1073741824) 1073741824 - C.m)
  have h2 := inX_in ok.q (clipI fq (-1073741824) 1073741824)
  have e1 : stD C fd fq 0 tn = C.m + devD C fd := by
    unfold stD
    rw [(turn_none _ _ e).1, h0, hr, Int.zero_mul, Int.zero_tdiv]
    omega
  have e2 : stQ C fd fq 0 tn = devQ C fq := by
    unfold stQ
    rw [(turn_none _ _ e).2, h0, hr, Int.zero_mul, Int.zero_tdiv]
    omega
  rw [e1, e2, show C.m + devD C fd - C.m = devD C fd by omega]
  exact ⟨by rw [show inX C.dx (devD C fd) = devD C fd from inX_same h1.1 h1.2], inX_same h2.1 h2.2⟩
set_option maxRecDepth 100000 in
set_option maxHeartbeats 3200000 in
theorem machineStill_large (C : Cf) (A1 A2 A3 A4 : Option Addr) (n1 n2 n3 n4 c1 c2 c3 c4 : Nat) (r0 fd fq an : Int) (w : World) (L : Ly w w.heap.size C A1 A2 A3 A4 n1 n2 n3 n4) (hl : lgB n1 n2 n3 n4 = true) :
    Calls Try.prog 6 #[.agg #[.int .i64 r0, .int .i64 C.m, .slice A1 n1 c1, .slice A2 n2 c2, .slice A3 n3 c3, .slice A4 n4 c4, .int .i64 C.p, .int .i64 C.s, .int .i64 C.f], .agg #[.int .i64 fd, .int .i64 fq], .int .i64 an] w fun e w' => e = .returned (.bool true) ∧ Below w.heap.size w w' := by
  have HB0 := ((Below.refl w.heap.size w).alloc (Nat.le_refl _) (.cells #[.int .i64 r0, .int .i64 C.m, .slice A1 n1 c1, .slice A2 n2 c2, .slice A3 n3 c3, .slice A4 n4 c4, .int .i64 C.p, .int .i64 C.s, .int .i64 C.f] 26)).alloc (by simp) (.cells #[.int .i64 fd, .int .i64 fq] 33)
  have L0 := ((L).new (.cells #[.int .i64 r0, .int .i64 C.m, .slice A1 n1 c1, .slice A2 n2 c2, .slice A3 n3 c3, .slice A4 n4 c4, .int .i64 C.p, .int .i64 C.s, .int .i64 C.f] 26)).new (.cells #[.int .i64 fd, .int .i64 fq] 33)
  have gc_0 := ((Blk.new w 26 #[.int .i64 r0, .int .i64 C.m, .slice A1 n1 c1, .slice A2 n2 c2, .slice A3 n3 c3, .slice A4 n4 c4, .int .i64 C.p, .int .i64 C.s, .int .i64 C.f]).alloc (.cells #[.int .i64 fd, .int .i64 fq] 33))
  have gs_0 := (Blk.new' (w := (w).alloc (.cells #[.int .i64 r0, .int .i64 C.m, .slice A1 n1 c1, .slice A2 n2 c2, .slice A3 n3 c3, .slice A4 n4 c4, .int .i64 C.p, .int .i64 C.s, .int .i64 C.f] 26)) (t := 33) (cs := #[.int .i64 fd, .int .i64 fq]) (g := w.heap.size + 1) (by simp))
  have hla := fun (W : World) => ((large_walk { C with r := r0 } A1 A2 A3 A4 n1 n2 n3 n4 c1 c2 c3 c4 W) : Calls Try.prog 13 #[.agg #[.int .i64 r0, .int .i64 C.m, .slice A1 n1 c1, .slice A2 n2 c2, .slice A3 n3 c3, .slice A4 n4 c4, .int .i64 C.p, .int .i64 C.s, .int .i64 C.f]] W fun e w' => e = .returned (.bool (lgB n1 n2 n3 n4)) ∧ Below W.heap.size W w')
  simp only [hl] at hla
  have HLA := hide hla
  clear hla hl
  go_enter Try.func6, Try.ntmps6
  go_wp2_with fail
  with_reducible refine (awake_walk _).mono ?_
  rintro e w1 ⟨rfl, hb1⟩
  have HB1 := HB0.trans (hb1.mono HB0.size)
  have gc_1 := gc_0.below hb1 gc_0.lt
  have lgc_1 := gc_1.lt
  have gs_1 := gs_0.below hb1 gs_0.lt
  have lgs_1 := gs_1.lt
  have L1 := L0.to hb1
  obtain ⟨gcc0, gcc1, gcc2, gcc3, gcc4, gcc5, gcc6, gcc7, gcc8⟩ := gc_1.c9
  obtain ⟨gsc0, gsc1⟩ := gs_1.c2
  go_wp2_with fail
  with_reducible refine ((unhide HLA) _).mono ?_
  rintro e w2 ⟨rfl, hb2⟩
  have HB2 := HB1.trans (hb2.mono HB1.size)
  have gc_2 := gc_1.below hb2 gc_1.lt
  have lgc_2 := gc_2.lt
  have gs_2 := gs_1.below hb2 gs_1.lt
  have lgs_2 := gs_2.lt
  have L2 := L1.to hb2
  clear gcc0 gcc1 gcc2 gcc3 gcc4 gcc5 gcc6 gcc7 gcc8 gsc0 gsc1
  obtain ⟨gcc0, gcc1, gcc2, gcc3, gcc4, gcc5, gcc6, gcc7, gcc8⟩ := gc_2.c9
  obtain ⟨gsc0, gsc1⟩ := gs_2.c2
  go_wp2_with fail
  with_reducible refine (awake_walk _).mono ?_
  rintro e w3 ⟨rfl, hb3⟩
  have HB3 := HB2.trans (hb3.mono HB2.size)
  have gc_3 := gc_2.below hb3 gc_2.lt
  have lgc_3 := gc_3.lt
  have gs_3 := gs_2.below hb3 gs_2.lt
  have lgs_3 := gs_3.lt
  have L3 := L2.to hb3
  go_wp2
  go_ret
  exact ⟨rfl, HB3⟩
set_option maxRecDepth 100000 in
set_option maxHeartbeats 3200000 in
theorem machineStill_bad (C : Cf) (A1 A2 A3 A4 : Option Addr) (n1 n2 n3 n4 c1 c2 c3 c4 : Nat) (r0 fd fq an : Int) (hr : C.r = 0) (w : World) (L : Ly w w.heap.size C A1 A2 A3 A4 n1 n2 n3 n4) (hl : lgB n1 n2 n3 n4 = false) (hc : cfCode C ≠ 0) :
    Calls Try.prog 6 #[.agg #[.int .i64 r0, .int .i64 C.m, .slice A1 n1 c1, .slice A2 n2 c2, .slice A3 n3 c3, .slice A4 n4 c4, .int .i64 C.p, .int .i64 C.s, .int .i64 C.f], .agg #[.int .i64 fd, .int .i64 fq], .int .i64 an] w fun e w' => e = .returned (.bool true) ∧ Below w.heap.size w w' := by
  have HB0 := ((Below.refl w.heap.size w).alloc (Nat.le_refl _) (.cells #[.int .i64 r0, .int .i64 C.m, .slice A1 n1 c1, .slice A2 n2 c2, .slice A3 n3 c3, .slice A4 n4 c4, .int .i64 C.p, .int .i64 C.s, .int .i64 C.f] 26)).alloc (by simp) (.cells #[.int .i64 fd, .int .i64 fq] 33)
  have L0 := ((L).new (.cells #[.int .i64 r0, .int .i64 C.m, .slice A1 n1 c1, .slice A2 n2 c2, .slice A3 n3 c3, .slice A4 n4 c4, .int .i64 C.p, .int .i64 C.s, .int .i64 C.f] 26)).new (.cells #[.int .i64 fd, .int .i64 fq] 33)
  have gc_0 := ((Blk.new w 26 #[.int .i64 r0, .int .i64 C.m, .slice A1 n1 c1, .slice A2 n2 c2, .slice A3 n3 c3, .slice A4 n4 c4, .int .i64 C.p, .int .i64 C.s, .int .i64 C.f]).alloc (.cells #[.int .i64 fd, .int .i64 fq] 33))
  have gs_0 := (Blk.new' (w := (w).alloc (.cells #[.int .i64 r0, .int .i64 C.m, .slice A1 n1 c1, .slice A2 n2 c2, .slice A3 n3 c3, .slice A4 n4 c4, .int .i64 C.p, .int .i64 C.s, .int .i64 C.f] 26)) (t := 33) (cs := #[.int .i64 fd, .int .i64 fq]) (g := w.heap.size + 1) (by simp))
  have hla := fun (W : World) => ((large_walk { C with r := r0 } A1 A2 A3 A4 n1 n2 n3 n4 c1 c2 c3 c4 W) : Calls Try.prog 13 #[.agg #[.int .i64 r0, .int .i64 C.m, .slice A1 n1 c1, .slice A2 n2 c2, .slice A3 n3 c3, .slice A4 n4 c4, .int .i64 C.p, .int .i64 C.s, .int .i64 C.f]] W fun e w' => e = .returned (.bool (lgB n1 n2 n3 n4)) ∧ Below W.heap.size W w')
  simp only [hl] at hla
  have hva := fun (W : World) (h : Ly W W.heap.size C A1 A2 A3 A4 n1 n2 n3 n4) => valid_bad C A1 A2 A3 A4 n1 n2 n3 n4 c1 c2 c3 c4 W h hl hc
  simp only [hr] at hva
  have HLA := hide hla
  have HVA := hide hva
  clear hla hva hl hc
  go_enter Try.func6, Try.ntmps6
  go_wp2_with fail
  with_reducible refine (awake_walk _).mono ?_
  rintro e w1 ⟨rfl, hb1⟩
  have HB1 := HB0.trans (hb1.mono HB0.size)
  have gc_1 := gc_0.below hb1 gc_0.lt
  have lgc_1 := gc_1.lt
  have gs_1 := gs_0.below hb1 gs_0.lt
  have lgs_1 := gs_1.lt
  have L1 := L0.to hb1
  obtain ⟨gcc0, gcc1, gcc2, gcc3, gcc4, gcc5, gcc6, gcc7, gcc8⟩ := gc_1.c9
  obtain ⟨gsc0, gsc1⟩ := gs_1.c2
  go_wp2_with fail
  with_reducible refine ((unhide HLA) _).mono ?_
  rintro e w2 ⟨rfl, hb2⟩
  have HB2 := HB1.trans (hb2.mono HB1.size)
  have gc_2 := gc_1.below hb2 gc_1.lt
  have lgc_2 := gc_2.lt
  have gs_2 := gs_1.below hb2 gs_1.lt
  have lgs_2 := gs_2.lt
  have L2 := L1.to hb2
  clear gcc0 gcc1 gcc2 gcc3 gcc4 gcc5 gcc6 gcc7 gcc8 gsc0 gsc1
  obtain ⟨gcc0, gcc1, gcc2, gcc3, gcc4, gcc5, gcc6, gcc7, gcc8⟩ := gc_2.c9
  obtain ⟨gsc0, gsc1⟩ := gs_2.c2
  have fr0 := gc_2.frozen 0
  go_wp2_with fail
  obtain ⟨w3, hw⟩ : ∃ W, w2.setCell ⟨w.heap.size, 0, none⟩ (.int .i64 0) = W := ⟨_, rfl⟩
  have gc_3 : Blk w3 w.heap.size 26 #[.int .i64 0, .int .i64 C.m, .slice A1 n1 c1, .slice A2 n2 c2, .slice A3 n3 c3, .slice A4 n4 c4, .int .i64 C.p, .int .i64 C.s, .int .i64 C.f] := by rw [← hw]; exact gc_2.set_ 0 _
  have gs_3 : Blk w3 (w.heap.size + 1) 33 #[.int .i64 fd, .int .i64 fq] := by rw [← hw]; exact gs_2.far (by simp) _
  have HB3 : Below w.heap.size w w3 := by rw [← hw]; exact HB2.setCell (by simp) _
  have L3 := (L.below HB3).more HB3.size
  have lgc_3 := gc_3.lt
  have lgs_3 := gs_3.lt
  rw [hw]
  clear hw
  clear gcc0 gcc1 gcc2 gcc3 gcc4 gcc5 gcc6 gcc7 gcc8 gsc0 gsc1
  obtain ⟨gcc0, gcc1, gcc2, gcc3, gcc4, gcc5, gcc6, gcc7, gcc8⟩ := gc_3.c9
  obtain ⟨gsc0, gsc1⟩ := gs_3.c2
  with_reducible refine ((unhide HVA) _ L3).mono ?_
  rintro e wv ⟨rfl, hbv⟩
  go_wp2
  go_ret
  exact ⟨rfl, HB3.trans (hbv.mono HB3.size)⟩
/-- What lies in memory at the second step. -/
structure TU (w0 w : World) (C : Cf) (a1 a2 a3 a4 : Addr) (n k c1 c2 c3 c4 : Nat) (g : Nat) (fd fq x y : Int) : Prop where
  p : Blk w (w0.heap.size) 26 #[.int .i64 0, .int .i64 C.m, .slice (some a1) n c1, .slice (some a2) n c2, .slice (some a3) k c3, .slice (some a4) k c4, .int .i64 C.p, .int .i64 C.s, .int .i64 C.f]
  q : Blk w (w0.heap.size + 1) 33 #[.int .i64 fd, .int .i64 fq]
  i : Blk w (g) 33 #[.int .i64 x, .int .i64 y]
  b : Below w0.heap.size w0 w
  l : Ly w w0.heap.size C (some a1) (some a2) (some a3) (some a4) n n k k
section
variable {w0 w w' : World} {C : Cf} {a1 a2 a3 a4 : Addr} {n k c1 c2 c3 c4 : Nat} {g : Nat} {fd fq x y : Int}
theorem TU.all (h : TU w0 w C a1 a2 a3 a4 n k c1 c2 c3 c4 g fd fq x y) : TU w0 w C a1 a2 a3 a4 n k c1 c2 c3 c4 g fd fq x y ∧ w.cell? ⟨w0.heap.size, 0, none⟩ = some (.int .i64 0) ∧ w.cell? ⟨w0.heap.size, 1, none⟩ = some (.int .i64 C.m) ∧ w.cell? ⟨w0.heap.size, 2, none⟩ = some (.slice (some a1) n c1) ∧ w.cell? ⟨w0.heap.size, 3, none⟩ = some (.slice (some a2) n c2) ∧ w.cell? ⟨w0.heap.size, 4, none⟩ = some (.slice (some a3) k c3) ∧ w.cell? ⟨w0.heap.size, 5, none⟩ = some (.slice (some a4) k c4) ∧ w.cell? ⟨w0.heap.size, 6, none⟩ = some (.int .i64 C.p) ∧ w.cell? ⟨w0.heap.size, 7, none⟩ = some (.int .i64 C.s) ∧ w.cell? ⟨w0.heap.size, 8, none⟩ = some (.int .i64 C.f) ∧ w.cell? ⟨w0.heap.size + 1, 0, none⟩ = some (.int .i64 fd) ∧ w.cell? ⟨w0.heap.size + 1, 1, none⟩ = some (.int .i64 fq) ∧ w.cell? ⟨g, 0, none⟩ = some (.int .i64 x) ∧ w.cell? ⟨g, 1, none⟩ = some (.int .i64 y) := ⟨h, h.p.cell 0, h.p.cell 1, h.p.cell 2, h.p.cell 3, h.p.cell 4, h.p.cell 5, h.p.cell 6, h.p.cell 7, h.p.cell 8, h.q.cell 0, h.q.cell 1, h.i.cell 0, h.i.cell 1⟩
theorem TU.drew (h : TU w0 w C a1 a2 a3 a4 n k c1 c2 c3 c4 g fd fq x y) : TU w0 w.drew C a1 a2 a3 a4 n k c1 c2 c3 c4 g fd fq x y := ⟨h.p.drew, h.q.drew, h.i.drew, h.b.drew, h.l.drew⟩
theorem TU.one {Q : Prop} (h : TU w0 w C a1 a2 a3 a4 n k c1 c2 c3 c4 g fd fq x y ∧ Q) : TU w0 w C a1 a2 a3 a4 n k c1 c2 c3 c4 g fd fq x y := h.1
theorem TU.below (hb : Below w.heap.size w w') (h : TU w0 w C a1 a2 a3 a4 n k c1 c2 c3 c4 g fd fq x y) : TU w0 w' C a1 a2 a3 a4 n k c1 c2 c3 c4 g fd fq x y := ⟨h.p.below hb h.p.lt, h.q.below hb h.q.lt, h.i.below hb h.i.lt, h.b.trans (hb.mono h.b.size), h.l.below (hb.mono h.b.size)⟩
theorem TU.ly (h : TU w0 w C a1 a2 a3 a4 n k c1 c2 c3 c4 g fd fq x y) : Ly w w.heap.size C (some a1) (some a2) (some a3) (some a4) n n k k := h.l.more h.b.size
end
theorem TU.alloc {w0 w : World} {C : Cf} {a1 a2 a3 a4 : Addr} {n k c1 c2 c3 c4 : Nat} {g : Nat} {fd fq x y : Int} (h : TU w0 w C a1 a2 a3 a4 n k c1 c2 c3 c4 g fd fq x y) (o : Obj) : TU w0 (w.alloc o) C a1 a2 a3 a4 n k c1 c2 c3 c4 g fd fq x y := ⟨h.p.alloc o, h.q.alloc o, h.i.alloc o, h.b.alloc h.b.size o, h.l.alloc h.b.size o⟩
theorem TU.set {w0 w : World} {C : Cf} {a1 a2 a3 a4 : Addr} {n k c1 c2 c3 c4 : Nat} {g : Nat} {fd fq x y : Int} (h : TU w0 w C a1 a2 a3 a4 n k c1 c2 c3 c4 g fd fq x y) {p : Addr} (hp : g < p.block) (hq : w0.heap.size + 1 < p.block) (u : Value) : TU w0 (w.setCell p u) C a1 a2 a3 a4 n k c1 c2 c3 c4 g fd fq x y := ⟨h.p.far (by omega) u, h.q.far (by omega) u, h.i.far (by omega) u, h.b.setCell (by omega) u, h.l.below ((Below.refl _ _).setCell (by omega) u)⟩
set_option maxRecDepth 100000 in
set_option maxHeartbeats 3200000 in
theorem machineStill_ok (C : Cf) (a1 a2 a3 a4 : Addr) (n k c1 c2 c3 c4 : Nat) (r0 fd fq an : Int) (hr : C.r = 0) (w : World) (L : Ly w w.heap.size C (some a1) (some a2) (some a3) (some a4) n n k k) (hl : lgB n n k k = false) (hc : cfCode C = 0) :
    Calls Try.prog 6 #[.agg #[.int .i64 r0, .int .i64 C.m, .slice (some a1) n c1, .slice (some a2) n c2, .slice (some a3) k c3, .slice (some a4) k c4, .int .i64 C.p, .int .i64 C.s, .int .i64 C.f], .agg #[.int .i64 fd, .int .i64 fq], .int .i64 an] w fun e w' => e = .returned (.bool true) ∧ Below w.heap.size w w' := by
  have HB0 := ((Below.refl w.heap.size w).alloc (Nat.le_refl _) (.cells #[.int .i64 r0, .int .i64 C.m, .slice (some a1) n c1, .slice (some a2) n c2, .slice (some a3) k c3, .slice (some a4) k c4, .int .i64 C.p, .int .i64 C.s, .int .i64 C.f] 26)).alloc (by simp) (.cells #[.int .i64 fd, .int .i64 fq] 33)
  have L0 := ((L).new (.cells #[.int .i64 r0, .int .i64 C.m, .slice (some a1) n c1, .slice (some a2) n c2, .slice (some a3) k c3, .slice (some a4) k c4, .int .i64 C.p, .int .i64 C.s, .int .i64 C.f] 26)).new (.cells #[.int .i64 fd, .int .i64 fq] 33)
  have gc_0 := ((Blk.new w 26 #[.int .i64 r0, .int .i64 C.m, .slice (some a1) n c1, .slice (some a2) n c2, .slice (some a3) k c3, .slice (some a4) k c4, .int .i64 C.p, .int .i64 C.s, .int .i64 C.f]).alloc (.cells #[.int .i64 fd, .int .i64 fq] 33))
  have gs_0 := (Blk.new' (w := (w).alloc (.cells #[.int .i64 r0, .int .i64 C.m, .slice (some a1) n c1, .slice (some a2) n c2, .slice (some a3) k c3, .slice (some a4) k c4, .int .i64 C.p, .int .i64 C.s, .int .i64 C.f] 26)) (t := 33) (cs := #[.int .i64 fd, .int .i64 fq]) (g := w.heap.size + 1) (by simp))
  have ok := cf_ok hc
  have e1 := st_none ok hr fd fq 0 (by decide)
  obtain ⟨K, hK⟩ : ∃ x, clipI an (-1073741824) 1073741824 = x := ⟨_, rfl⟩
  have bK := clipI_in an (-1073741824) 1073741824 (by omega)
  rw [hK] at bK
  have e2 := st_none ok hr (C.m + devD C fd) (devQ C fq) (K * 65536) (by omega)
  rw [devD_idem ok, devQ_idem ok] at e2
  have e3 : curD C (C.m + devD C fd) = curD C fd := by unfold curD; rw [devD_idem ok]
  have e4 : curQ C (devQ C fq) = curQ C fq := by unfold curQ; rw [devQ_idem ok]
  obtain ⟨x, hx⟩ : ∃ x, C.m + devD C fd = x := ⟨_, rfl⟩
  obtain ⟨y, hy⟩ : ∃ x, devQ C fq = x := ⟨_, rfl⟩
  obtain ⟨I, hI⟩ : ∃ x, curD C fd = x := ⟨_, rfl⟩
  obtain ⟨J, hJ⟩ : ∃ x, curQ C fq = x := ⟨_, rfl⟩
  rw [hx, hy] at e1
  rw [hx, hy] at e2
  rw [hx, hI] at e3
  rw [hy, hJ] at e4
  have ew : IntKind.i64.wrap (K * 65536) = K * 65536 := IntWalk.i64_in _ (by omega)
  have hla := fun (W : World) => ((large_walk { C with r := r0 } (some a1) (some a2) (some a3) (some a4) n n k k c1 c2 c3 c4 W) : Calls Try.prog 13 #[.agg #[.int .i64 r0, .int .i64 C.m, .slice (some a1) n c1, .slice (some a2) n c2, .slice (some a3) k c3, .slice (some a4) k c4, .int .i64 C.p, .int .i64 C.s, .int .i64 C.f]] W fun e w' => e = .returned (.bool (lgB n n k k)) ∧ Below W.heap.size W w')
  simp only [hl] at hla
  have hva := fun (W : World) (h : Ly W W.heap.size C (some a1) (some a2) (some a3) (some a4) n n k k) => valid_ok C (some a1) (some a2) (some a3) (some a4) n n k k c1 c2 c3 c4 W h hl hc
  simp only [hr] at hva
  have hs1 := fun (W : World) (h : Ly W W.heap.size C (some a1) (some a2) (some a3) (some a4) n n k k) => stepM C a1 a2 a3 a4 n k c1 c2 c3 c4 fd fq 0 0 0 W h hc
  simp only [hr, e1] at hs1
  have hs2 := fun (W : World) (h : Ly W W.heap.size C (some a1) (some a2) (some a3) (some a4) n n k k) => stepM C a1 a2 a3 a4 n k c1 c2 c3 c4 x y 0 0 (K * 65536) W h hc
  simp only [hr, e2] at hs2
  have hc1 := fun (W : World) (h : Ly W W.heap.size C (some a1) (some a2) (some a3) (some a4) n n k k) => currentsM C a1 a2 a3 a4 n k c1 c2 c3 c4 fd fq W h hc
  simp only [hr, hI, hJ] at hc1
  have hc2 := fun (W : World) (h : Ly W W.heap.size C (some a1) (some a2) (some a3) (some a4) n n k k) => currentsM C a1 a2 a3 a4 n k c1 c2 c3 c4 x y W h hc
  simp only [hr, e3, e4] at hc2
  have hcl := fun (W : World) => clipB an (-1073741824) 1073741824 (by omega) W
  simp only [hK] at hcl
  have HLA := hide hla
  have HVA := hide hva
  have HS1 := hide hs1
  have HS2 := hide hs2
  have HC1 := hide hc1
  have HC2 := hide hc2
  have HCL := hide hcl
  clear hla hva hs1 hs2 hc1 hc2 hcl hl hc ok hx hy hI hJ hK e1 e2 e3 e4
  go_enter Try.func6, Try.ntmps6
  go_wp2_with fail
  with_reducible refine (awake_walk _).mono ?_
  rintro e w1 ⟨rfl, hb1⟩
  have HB1 := HB0.trans (hb1.mono HB0.size)
  have gc_1 := gc_0.below hb1 gc_0.lt
  have lgc_1 := gc_1.lt
  have gs_1 := gs_0.below hb1 gs_0.lt
  have lgs_1 := gs_1.lt
  have L1 := L0.to hb1
  obtain ⟨gcc0, gcc1, gcc2, gcc3, gcc4, gcc5, gcc6, gcc7, gcc8⟩ := gc_1.c9
  obtain ⟨gsc0, gsc1⟩ := gs_1.c2
  go_wp2_with fail
  with_reducible refine ((unhide HLA) _).mono ?_
  rintro e w2 ⟨rfl, hb2⟩
  have HB2 := HB1.trans (hb2.mono HB1.size)
  have gc_2 := gc_1.below hb2 gc_1.lt
  have lgc_2 := gc_2.lt
  have gs_2 := gs_1.below hb2 gs_1.lt
  have lgs_2 := gs_2.lt
  have L2 := L1.to hb2
  clear gcc0 gcc1 gcc2 gcc3 gcc4 gcc5 gcc6 gcc7 gcc8 gsc0 gsc1
  obtain ⟨gcc0, gcc1, gcc2, gcc3, gcc4, gcc5, gcc6, gcc7, gcc8⟩ := gc_2.c9
  obtain ⟨gsc0, gsc1⟩ := gs_2.c2
  have fr0 := gc_2.frozen 0
  go_wp2_with fail
  obtain ⟨w3, hw⟩ : ∃ W, w2.setCell ⟨w.heap.size, 0, none⟩ (.int .i64 0) = W := ⟨_, rfl⟩
  have gc_3 : Blk w3 w.heap.size 26 #[.int .i64 0, .int .i64 C.m, .slice (some a1) n c1, .slice (some a2) n c2, .slice (some a3) k c3, .slice (some a4) k c4, .int .i64 C.p, .int .i64 C.s, .int .i64 C.f] := by rw [← hw]; exact gc_2.set_ 0 _
  have gs_3 : Blk w3 (w.heap.size + 1) 33 #[.int .i64 fd, .int .i64 fq] := by rw [← hw]; exact gs_2.far (by simp) _
  have HB3 : Below w.heap.size w w3 := by rw [← hw]; exact HB2.setCell (by simp) _
  have L3 := (L.below HB3).more HB3.size
  have lgc_3 := gc_3.lt
  have lgs_3 := gs_3.lt
  rw [hw]
  clear hw
  clear gcc0 gcc1 gcc2 gcc3 gcc4 gcc5 gcc6 gcc7 gcc8 gsc0 gsc1
  obtain ⟨gcc0, gcc1, gcc2, gcc3, gcc4, gcc5, gcc6, gcc7, gcc8⟩ := gc_3.c9
  obtain ⟨gsc0, gsc1⟩ := gs_3.c2
  with_reducible refine ((unhide HVA) _ L3).mono ?_
  rintro e w4 ⟨rfl, hb4⟩
  have HB4 := HB3.trans (hb4.mono HB3.size)
  have gc_4 := gc_3.below hb4 gc_3.lt
  have lgc_4 := gc_4.lt
  have gs_4 := gs_3.below hb4 gs_3.lt
  have lgs_4 := gs_4.lt
  have L4 := L3.to hb4
  clear gcc0 gcc1 gcc2 gcc3 gcc4 gcc5 gcc6 gcc7 gcc8 gsc0 gsc1
  obtain ⟨gcc0, gcc1, gcc2, gcc3, gcc4, gcc5, gcc6, gcc7, gcc8⟩ := gc_4.c9
  obtain ⟨gsc0, gsc1⟩ := gs_4.c2
  go_wp2_with fail
  with_reducible refine ((unhide HS1) _ L4).mono ?_
  rintro e w5 ⟨rfl, hb5⟩
  have HB5 := HB4.trans (hb5.mono HB4.size)
  have gc_5 := gc_4.below hb5 gc_4.lt
  have lgc_5 := gc_5.lt
  have gs_5 := gs_4.below hb5 gs_4.lt
  have lgs_5 := gs_5.lt
  have L5 := L4.to hb5
  clear gcc0 gcc1 gcc2 gcc3 gcc4 gcc5 gcc6 gcc7 gcc8 gsc0 gsc1
  obtain ⟨gcc0, gcc1, gcc2, gcc3, gcc4, gcc5, gcc6, gcc7, gcc8⟩ := gc_5.c9
  obtain ⟨gsc0, gsc1⟩ := gs_5.c2
  go_wp2_with fail
  have ga := Blk.new w5 33 #[.int .i64 x, .int .i64 y]
  have HA := HB5.alloc HB5.size (.cells #[.int .i64 x, .int .i64 y] 33)
  have gc_a := gc_5.alloc (.cells #[.int .i64 x, .int .i64 y] 33)
  have gs_a := gs_5.alloc (.cells #[.int .i64 x, .int .i64 y] 33)
  have la0 : w.heap.size + 1 < w5.heap.size := gs_5.lt
  obtain ⟨ba, hba⟩ : ∃ b, w5.heap.size = b := ⟨_, rfl⟩
  obtain ⟨wa, hwa⟩ : ∃ W, w5.alloc (.cells #[.int .i64 x, .int .i64 y] 33) = W := ⟨_, rfl⟩
  simp only [hwa, hba] at ga HA gc_a gs_a la0 ⊢
  clear hwa
  have has : TU w wa C a1 a2 a3 a4 n k c1 c2 c3 c4 ba fd fq x y := ⟨gc_a, gs_a, ga, HA, L.below HA⟩
  have lwa := ga.lt
  have lwa1 : w.heap.size + 1 < wa.heap.size := gs_a.lt
  have lwa0 : w.heap.size < wa.heap.size := gc_a.lt
  clear gcc0 gcc1 gcc2 gcc3 gcc4 gcc5 gcc6 gcc7 gcc8 gsc0 gsc1
  go_cut [9, 10] from 33 to 42 (fun u9 u10 wx => u10 = .nilIface ∧ ∃ b, u9 = .pointer (some ⟨b, 0, none⟩) ∧ TU w wx C a1 a2 a3 a4 n k c1 c2 c3 c4 ba fd fq x y ∧ Blk wx b 33 #[.int .i64 x, .int .i64 y])
  case first =>
    go_region_held3 (fun w' => TU w w' C a1 a2 a3 a4 n k c1 c2 c3 c4 ba fd fq x y ∧ w'.cell? ⟨w.heap.size, 0, none⟩ = some (.int .i64 0) ∧ w'.cell? ⟨w.heap.size, 1, none⟩ = some (.int .i64 C.m) ∧ w'.cell? ⟨w.heap.size, 2, none⟩ = some (.slice (some a1) n c1) ∧ w'.cell? ⟨w.heap.size, 3, none⟩ = some (.slice (some a2) n c2) ∧ w'.cell? ⟨w.heap.size, 4, none⟩ = some (.slice (some a3) k c3) ∧ w'.cell? ⟨w.heap.size, 5, none⟩ = some (.slice (some a4) k c4) ∧ w'.cell? ⟨w.heap.size, 6, none⟩ = some (.int .i64 C.p) ∧ w'.cell? ⟨w.heap.size, 7, none⟩ = some (.int .i64 C.s) ∧ w'.cell? ⟨w.heap.size, 8, none⟩ = some (.int .i64 C.f) ∧ w'.cell? ⟨w.heap.size + 1, 0, none⟩ = some (.int .i64 fd) ∧ w'.cell? ⟨w.heap.size + 1, 1, none⟩ = some (.int .i64 fq) ∧ w'.cell? ⟨ba, 0, none⟩ = some (.int .i64 x) ∧ w'.cell? ⟨ba, 1, none⟩ = some (.int .i64 y))
      (first | (refine TU.all ?_; repeat (first | with_reducible exact has | with_reducible exact hasS | with_reducible refine TU.drew ?_ | with_reducible refine TU.alloc ?_ _ | ((with_reducible refine TU.set ?_ ?_ ?_ _); rotate_left; (first | exact lS | exact lwa); (first | exact lS1 | exact lwa1)))))
      (first | (go_at_call 26; (with_reducible refine ((unhide HCL) _).mono ?_); rintro e w' ⟨rfl, rfl⟩) | (go_at_call 23; (with_reducible refine ((unhide HS2) _ (TU.ly (TU.one ‹TU w _ _ _ _ _ _ _ _ _ _ _ _ _ _ _ _ _ ∧ _›))).mono ?_); rintro e wS ⟨rfl, hbS⟩; have hasS := TU.below hbS (TU.one ‹TU w _ _ _ _ _ _ _ _ _ _ _ _ _ _ _ _ _ ∧ _›); have lS := hasS.i.lt; have lS1 := hasS.q.lt; have lS0 := hasS.p.lt; (try (have gD := (Blk.new wa 33 #[.int .i64 0, .int .i64 0]).drew.below hbS (Blk.new wa 33 #[.int .i64 0, .int .i64 0]).drew.lt; have lD := gD.lt; have c0 := gD.c2.1; have c1 := gD.c2.2; have f0 := gD.frozen 0; have f1 := gD.frozen 1))))
    all_goals
      go_wp2_with fail
      go_meet
      case rel =>
        first
          | exact ⟨rfl, _, rfl, hasS.alloc _, Blk.new wS _ _⟩
          | exact ⟨rfl, _, rfl, (hasS.set (by exact lwa) (by exact lwa1) _).set (by exact lwa) (by exact lwa1) _, (gD.set_ 0 _).set_ 1 _⟩
  case rest =>
    obtain ⟨rfl, bb, rfl, hasC, gb⟩ := hcut
    obtain ⟨w20, hw20⟩ : ∃ W, W = wc := ⟨_, rfl⟩
    rw [← hw20] at hasC gb ⊢
    clear hw20
    have HB20 := hasC.b
    have gc_20 := hasC.p
    have gs_20 := hasC.q
    have ga_20 := hasC.i
    have gb_20 := gb
    have lgc_20 := gc_20.lt
    have lgs_20 := gs_20.lt
    have lga_20 := ga_20.lt
    have lgb_20 := gb.lt
    have L20 := hasC.ly
    clear has hasC gb
    obtain ⟨gcc0, gcc1, gcc2, gcc3, gcc4, gcc5, gcc6, gcc7, gcc8⟩ := gc_20.c9
    obtain ⟨gsc0, gsc1⟩ := gs_20.c2
    obtain ⟨gac0, gac1⟩ := ga_20.c2
    obtain ⟨gbc0, gbc1⟩ := gb_20.c2
    go_wp2_with fail
    with_reducible refine ((unhide HC1) _ L20).mono ?_
    rintro e w21 ⟨rfl, hb21⟩
    have HB21 := HB20.trans (hb21.mono HB20.size)
    have gc_21 := gc_20.below hb21 gc_20.lt
    have lgc_21 := gc_21.lt
    have gs_21 := gs_20.below hb21 gs_20.lt
    have lgs_21 := gs_21.lt
    have ga_21 := ga_20.below hb21 ga_20.lt
    have lga_21 := ga_21.lt
    have gb_21 := gb_20.below hb21 gb_20.lt
    have lgb_21 := gb_21.lt
    have L21 := L20.to hb21
    clear gcc0 gcc1 gcc2 gcc3 gcc4 gcc5 gcc6 gcc7 gcc8 gsc0 gsc1 gac0 gac1 gbc0 gbc1
    obtain ⟨gcc0, gcc1, gcc2, gcc3, gcc4, gcc5, gcc6, gcc7, gcc8⟩ := gc_21.c9
    obtain ⟨gsc0, gsc1⟩ := gs_21.c2
    obtain ⟨gac0, gac1⟩ := ga_21.c2
    obtain ⟨gbc0, gbc1⟩ := gb_21.c2
    have lgc_21p : w.heap.size < w21.heap.size + 1 := by have := gc_21.lt; omega
    have lgs_21p : w.heap.size + 1 < w21.heap.size + 1 := by have := gs_21.lt; omega
    have lga_21p : ba < w21.heap.size + 1 := by have := ga_21.lt; omega
    have lgb_21p : bb < w21.heap.size + 1 := by have := gb_21.lt; omega
    go_wp2_with fail
    with_reducible refine ((unhide HC2) _ (L21.new _)).mono ?_
    rintro e w22 ⟨rfl, hb22⟩
    have HB22 := (HB21.alloc HB21.size _).trans (hb22.mono (by simp; have := HB21.size; omega))
    have gc_22 := (gc_21.alloc _).below hb22 (gc_21.alloc _).lt
    have lgc_22 := gc_22.lt
    have gs_22 := (gs_21.alloc _).below hb22 (gs_21.alloc _).lt
    have lgs_22 := gs_22.lt
    have ga_22 := (ga_21.alloc _).below hb22 (ga_21.alloc _).lt
    have lga_22 := ga_22.lt
    have gb_22 := (gb_21.alloc _).below hb22 (gb_21.alloc _).lt
    have lgb_22 := gb_22.lt
    have gi_22 := (Blk.new w21 31 #[.int .i64 I, .int .i64 J]).below hb22 (Blk.new w21 31 #[.int .i64 I, .int .i64 J]).lt
    have lgi_22 := gi_22.lt
    have L22 := (L21.new _).to hb22
    clear gcc0 gcc1 gcc2 gcc3 gcc4 gcc5 gcc6 gcc7 gcc8 gsc0 gsc1 gac0 gac1 gbc0 gbc1
    obtain ⟨gcc0, gcc1, gcc2, gcc3, gcc4, gcc5, gcc6, gcc7, gcc8⟩ := gc_22.c9
    obtain ⟨gsc0, gsc1⟩ := gs_22.c2
    obtain ⟨gac0, gac1⟩ := ga_22.c2
    obtain ⟨gbc0, gbc1⟩ := gb_22.c2
    obtain ⟨gic0, gic1⟩ := gi_22.c2
    have lgc_22p : w.heap.size < w22.heap.size + 1 := by have := gc_22.lt; omega
    have lgs_22p : w.heap.size + 1 < w22.heap.size + 1 := by have := gs_22.lt; omega
    have lga_22p : ba < w22.heap.size + 1 := by have := ga_22.lt; omega
    have lgb_22p : bb < w22.heap.size + 1 := by have := gb_22.lt; omega
    have lgi_22p : w21.heap.size < w22.heap.size + 1 := by have := gi_22.lt; omega
    go_wp2
    go_ret
    exact ⟨rfl, HB22.alloc HB22.size _⟩
theorem machineStill_walk (C : Cf) (A1 A2 A3 A4 : Option Addr) (n1 n2 n3 n4 c1 c2 c3 c4 : Nat) (fd fq an : Int) (w : World) (L : Ly w w.heap.size C A1 A2 A3 A4 n1 n2 n3 n4) :
    Calls Try.prog 6 #[.agg #[.int .i64 C.r, .int .i64 C.m, .slice A1 n1 c1, .slice A2 n2 c2, .slice A3 n3 c3, .slice A4 n4 c4, .int .i64 C.p, .int .i64 C.s, .int .i64 C.f], .agg #[.int .i64 fd, .int .i64 fq], .int .i64 an] w fun e w' => e = .returned (.bool true) ∧ Below w.heap.size w w' := by
  have L' : Ly w w.heap.size { C with r := 0 } A1 A2 A3 A4 n1 n2 n3 n4 := ⟨L.s1, L.s2, L.s3, L.s4, L.e1, L.e2, L.e3, L.e4⟩
  cases hl : lgB n1 n2 n3 n4 with
  | true => exact machineStill_large C A1 A2 A3 A4 n1 n2 n3 n4 c1 c2 c3 c4 C.r fd fq an w L hl
  | false =>
    by_cases hc : cfCode { C with r := 0 } = 0
    · obtain ⟨a1, a2, a3, a4, rfl, rfl, rfl, rfl, rfl, rfl⟩ := L'.ptrs (cf_ok hc)
      exact machineStill_ok { C with r := 0 } a1 a2 a3 a4 _ _ c1 c2 c3 c4 C.r fd fq an rfl w L' hl hc
    · exact machineStill_bad { C with r := 0 } A1 A2 A3 A4 n1 n2 n3 n4 c1 c2 c3 c4 C.r fd fq an rfl w L' hl hc
end Go.Proofs.Ytmmplfokidnpnaa
