/- The walk of the statement MachineRises. -/
import Derived.Test.YtmmplfokidnpnaaMAwake
import Derived.Test.YtmmplfokidnpnaaMValid
import Derived.Test.YtmmplfokidnpnaaMRisesP
import Derived.StillTailTactics
import Derived.Deep.RegionHeld3
import Derived.Deep.CutRange
import Derived.Lib.MinMax
namespace Go.Proofs.Ytmmplfokidnpnaa
open Go.RowKit
theorem Blk.c5 {w : World} {g : Nat} {t : TypeId} {v0 v1 v2 v3 v4 : Value} (h : Blk w g t #[v0, v1, v2, v3, v4]) : w.cell? ⟨g, 0, none⟩ = some v0 ∧ w.cell? ⟨g, 1, none⟩ = some v1 ∧ w.cell? ⟨g, 2, none⟩ = some v2 ∧ w.cell? ⟨g, 3, none⟩ = some v3 ∧ w.cell? ⟨g, 4, none⟩ = some v4 := ⟨h.cell 0, h.cell 1, h.cell 2, h.cell 3, h.cell 4⟩
set_option maxRecDepth 100000 in
set_option maxHeartbeats 3200000 in
theorem machineRises_large (C : Cf) (A1 A2 A3 A4 : Option Addr) (n1 n2 n3 n4 c1 c2 c3 c4 : Nat) (fd fq vd vq tn mu mv : Int) (w : World) (L : Ly w w.heap.size C A1 A2 A3 A4 n1 n2 n3 n4) (hl : lgB n1 n2 n3 n4 = true) :
    Calls Try.prog 11 #[.agg #[.int .i64 C.r, .int .i64 C.m, .slice A1 n1 c1, .slice A2 n2 c2, .slice A3 n3 c3, .slice A4 n4 c4, .int .i64 C.p, .int .i64 C.s, .int .i64 C.f], .agg #[.int .i64 fd, .int .i64 fq], .agg #[.int .i64 vd, .int .i64 vq, .int .i64 tn, .int .i64 mu, .int .i64 mv]] w fun e w' => e = .returned (.bool true) ∧ Below w.heap.size w w' := by
  have HB0 := (((Below.refl w.heap.size w).alloc (Nat.le_refl _) (.cells #[.int .i64 C.r, .int .i64 C.m, .slice A1 n1 c1, .slice A2 n2 c2, .slice A3 n3 c3, .slice A4 n4 c4, .int .i64 C.p, .int .i64 C.s, .int .i64 C.f] 26)).alloc (by simp) (.cells #[.int .i64 fd, .int .i64 fq] 33)).alloc (by simp <;> omega) (.cells #[.int .i64 vd, .int .i64 vq, .int .i64 tn, .int .i64 mu, .int .i64 mv] 72)
  have L0 := (((L).new (.cells #[.int .i64 C.r, .int .i64 C.m, .slice A1 n1 c1, .slice A2 n2 c2, .slice A3 n3 c3, .slice A4 n4 c4, .int .i64 C.p, .int .i64 C.s, .int .i64 C.f] 26)).new (.cells #[.int .i64 fd, .int .i64 fq] 33)).new (.cells #[.int .i64 vd, .int .i64 vq, .int .i64 tn, .int .i64 mu, .int .i64 mv] 72)
  have gc_0 := (((Blk.new w 26 #[.int .i64 C.r, .int .i64 C.m, .slice A1 n1 c1, .slice A2 n2 c2, .slice A3 n3 c3, .slice A4 n4 c4, .int .i64 C.p, .int .i64 C.s, .int .i64 C.f]).alloc (.cells #[.int .i64 fd, .int .i64 fq] 33)).alloc (.cells #[.int .i64 vd, .int .i64 vq, .int .i64 tn, .int .i64 mu, .int .i64 mv] 72))
  have gs_0 := ((Blk.new' (w := (w).alloc (.cells #[.int .i64 C.r, .int .i64 C.m, .slice A1 n1 c1, .slice A2 n2 c2, .slice A3 n3 c3, .slice A4 n4 c4, .int .i64 C.p, .int .i64 C.s, .int .i64 C.f] 26)) (t := 33) (cs := #[.int .i64 fd, .int .i64 fq]) (g := w.heap.size + 1) (by simp)).alloc (.cells #[.int .i64 vd, .int .i64 vq, .int .i64 tn, .int .i64 mu, .int .i64 mv] 72))
  have gx_0 := (Blk.new' (w := ((w).alloc (.cells #[.int .i64 C.r, .int .i64 C.m, .slice A1 n1 c1, .slice A2 n2 c2, .slice A3 n3 c3, .slice A4 n4 c4, .int .i64 C.p, .int .i64 C.s, .int .i64 C.f] 26)).alloc (.cells #[.int .i64 fd, .int .i64 fq] 33)) (t := 72) (cs := #[.int .i64 vd, .int .i64 vq, .int .i64 tn, .int .i64 mu, .int .i64 mv]) (g := w.heap.size + 1 + 1) (by simp))
  have hva := fun (W : World) (h : Ly W W.heap.size C A1 A2 A3 A4 n1 n2 n3 n4) => valid_large C A1 A2 A3 A4 n1 n2 n3 n4 c1 c2 c3 c4 W h hl
  have HVA := hide hva
  clear hva hl
  go_enter Try.func11, Try.ntmps11
  go_wp2_with fail
  with_reducible refine (awake_walk _).mono ?_
  rintro e w1 ⟨rfl, hb1⟩
  have HB1 := HB0.trans (hb1.mono HB0.size)
  have gc_1 := gc_0.below hb1 gc_0.lt
  have lgc_1 := gc_1.lt
  have gs_1 := gs_0.below hb1 gs_0.lt
  have lgs_1 := gs_1.lt
  have gx_1 := gx_0.below hb1 gx_0.lt
  have lgx_1 := gx_1.lt
  have L1 := L0.to hb1
  obtain ⟨gcc0, gcc1, gcc2, gcc3, gcc4, gcc5, gcc6, gcc7, gcc8⟩ := gc_1.c9
  obtain ⟨gsc0, gsc1⟩ := gs_1.c2
  obtain ⟨gxc0, gxc1, gxc2, gxc3, gxc4⟩ := gx_1.c5
  go_wp2_with fail
  with_reducible refine ((unhide HVA) _ L1).mono ?_
  rintro e w2 ⟨rfl, hb2⟩
  have HB2 := HB1.trans (hb2.mono HB1.size)
  have gc_2 := gc_1.below hb2 gc_1.lt
  have lgc_2 := gc_2.lt
  have gs_2 := gs_1.below hb2 gs_1.lt
  have lgs_2 := gs_2.lt
  have gx_2 := gx_1.below hb2 gx_1.lt
  have lgx_2 := gx_2.lt
  have L2 := L1.to hb2
  clear gcc0 gcc1 gcc2 gcc3 gcc4 gcc5 gcc6 gcc7 gcc8 gsc0 gsc1 gxc0 gxc1 gxc2 gxc3 gxc4
  obtain ⟨gcc0, gcc1, gcc2, gcc3, gcc4, gcc5, gcc6, gcc7, gcc8⟩ := gc_2.c9
  obtain ⟨gsc0, gsc1⟩ := gs_2.c2
  obtain ⟨gxc0, gxc1, gxc2, gxc3, gxc4⟩ := gx_2.c5
  go_wp2_with fail
  with_reducible refine (awake_walk _).mono ?_
  rintro e w3 ⟨rfl, hb3⟩
  have HB3 := HB2.trans (hb3.mono HB2.size)
  have gc_3 := gc_2.below hb3 gc_2.lt
  have lgc_3 := gc_3.lt
  have gs_3 := gs_2.below hb3 gs_2.lt
  have lgs_3 := gs_3.lt
  have gx_3 := gx_2.below hb3 gx_2.lt
  have lgx_3 := gx_3.lt
  have L3 := L2.to hb3
  go_wp2
  go_ret
  exact ⟨rfl, HB3⟩
set_option maxRecDepth 100000 in
set_option maxHeartbeats 3200000 in
theorem machineRises_bad (C : Cf) (A1 A2 A3 A4 : Option Addr) (n1 n2 n3 n4 c1 c2 c3 c4 : Nat) (fd fq vd vq tn mu mv : Int) (w : World) (L : Ly w w.heap.size C A1 A2 A3 A4 n1 n2 n3 n4) (hl : lgB n1 n2 n3 n4 = false) (hc : cfCode C ≠ 0) :
    Calls Try.prog 11 #[.agg #[.int .i64 C.r, .int .i64 C.m, .slice A1 n1 c1, .slice A2 n2 c2, .slice A3 n3 c3, .slice A4 n4 c4, .int .i64 C.p, .int .i64 C.s, .int .i64 C.f], .agg #[.int .i64 fd, .int .i64 fq], .agg #[.int .i64 vd, .int .i64 vq, .int .i64 tn, .int .i64 mu, .int .i64 mv]] w fun e w' => e = .returned (.bool true) ∧ Below w.heap.size w w' := by
  have HB0 := (((Below.refl w.heap.size w).alloc (Nat.le_refl _) (.cells #[.int .i64 C.r, .int .i64 C.m, .slice A1 n1 c1, .slice A2 n2 c2, .slice A3 n3 c3, .slice A4 n4 c4, .int .i64 C.p, .int .i64 C.s, .int .i64 C.f] 26)).alloc (by simp) (.cells #[.int .i64 fd, .int .i64 fq] 33)).alloc (by simp <;> omega) (.cells #[.int .i64 vd, .int .i64 vq, .int .i64 tn, .int .i64 mu, .int .i64 mv] 72)
  have L0 := (((L).new (.cells #[.int .i64 C.r, .int .i64 C.m, .slice A1 n1 c1, .slice A2 n2 c2, .slice A3 n3 c3, .slice A4 n4 c4, .int .i64 C.p, .int .i64 C.s, .int .i64 C.f] 26)).new (.cells #[.int .i64 fd, .int .i64 fq] 33)).new (.cells #[.int .i64 vd, .int .i64 vq, .int .i64 tn, .int .i64 mu, .int .i64 mv] 72)
  have gc_0 := (((Blk.new w 26 #[.int .i64 C.r, .int .i64 C.m, .slice A1 n1 c1, .slice A2 n2 c2, .slice A3 n3 c3, .slice A4 n4 c4, .int .i64 C.p, .int .i64 C.s, .int .i64 C.f]).alloc (.cells #[.int .i64 fd, .int .i64 fq] 33)).alloc (.cells #[.int .i64 vd, .int .i64 vq, .int .i64 tn, .int .i64 mu, .int .i64 mv] 72))
  have gs_0 := ((Blk.new' (w := (w).alloc (.cells #[.int .i64 C.r, .int .i64 C.m, .slice A1 n1 c1, .slice A2 n2 c2, .slice A3 n3 c3, .slice A4 n4 c4, .int .i64 C.p, .int .i64 C.s, .int .i64 C.f] 26)) (t := 33) (cs := #[.int .i64 fd, .int .i64 fq]) (g := w.heap.size + 1) (by simp)).alloc (.cells #[.int .i64 vd, .int .i64 vq, .int .i64 tn, .int .i64 mu, .int .i64 mv] 72))
  have gx_0 := (Blk.new' (w := ((w).alloc (.cells #[.int .i64 C.r, .int .i64 C.m, .slice A1 n1 c1, .slice A2 n2 c2, .slice A3 n3 c3, .slice A4 n4 c4, .int .i64 C.p, .int .i64 C.s, .int .i64 C.f] 26)).alloc (.cells #[.int .i64 fd, .int .i64 fq] 33)) (t := 72) (cs := #[.int .i64 vd, .int .i64 vq, .int .i64 tn, .int .i64 mu, .int .i64 mv]) (g := w.heap.size + 1 + 1) (by simp))
  have hva := fun (W : World) (h : Ly W W.heap.size C A1 A2 A3 A4 n1 n2 n3 n4) => valid_bad C A1 A2 A3 A4 n1 n2 n3 n4 c1 c2 c3 c4 W h hl hc
  have HVA := hide hva
  clear hva hl hc
  go_enter Try.func11, Try.ntmps11
  go_wp2_with fail
  with_reducible refine (awake_walk _).mono ?_
  rintro e w1 ⟨rfl, hb1⟩
  have HB1 := HB0.trans (hb1.mono HB0.size)
  have gc_1 := gc_0.below hb1 gc_0.lt
  have lgc_1 := gc_1.lt
  have gs_1 := gs_0.below hb1 gs_0.lt
  have lgs_1 := gs_1.lt
  have gx_1 := gx_0.below hb1 gx_0.lt
  have lgx_1 := gx_1.lt
  have L1 := L0.to hb1
  obtain ⟨gcc0, gcc1, gcc2, gcc3, gcc4, gcc5, gcc6, gcc7, gcc8⟩ := gc_1.c9
  obtain ⟨gsc0, gsc1⟩ := gs_1.c2
  obtain ⟨gxc0, gxc1, gxc2, gxc3, gxc4⟩ := gx_1.c5
  go_wp2_with fail
  with_reducible refine ((unhide HVA) _ L1).mono ?_
  rintro e w2 ⟨rfl, hb2⟩
  have HB2 := HB1.trans (hb2.mono HB1.size)
  have gc_2 := gc_1.below hb2 gc_1.lt
  have lgc_2 := gc_2.lt
  have gs_2 := gs_1.below hb2 gs_1.lt
  have lgs_2 := gs_2.lt
  have gx_2 := gx_1.below hb2 gx_1.lt
  have lgx_2 := gx_2.lt
  have L2 := L1.to hb2
  clear gcc0 gcc1 gcc2 gcc3 gcc4 gcc5 gcc6 gcc7 gcc8 gsc0 gsc1 gxc0 gxc1 gxc2 gxc3 gxc4
  obtain ⟨gcc0, gcc1, gcc2, gcc3, gcc4, gcc5, gcc6, gcc7, gcc8⟩ := gc_2.c9
  obtain ⟨gsc0, gsc1⟩ := gs_2.c2
  obtain ⟨gxc0, gxc1, gxc2, gxc3, gxc4⟩ := gx_2.c5
  go_wp2_with fail
  with_reducible refine (awake_walk _).mono ?_
  rintro e w3 ⟨rfl, hb3⟩
  have HB3 := HB2.trans (hb3.mono HB2.size)
  have gc_3 := gc_2.below hb3 gc_2.lt
  have lgc_3 := gc_3.lt
  have gs_3 := gs_2.below hb3 gs_2.lt
  have lgs_3 := gs_3.lt
  have gx_3 := gx_2.below hb3 gx_2.lt
  have lgx_3 := gx_3.lt
  have L3 := L2.to hb3
  go_wp2
  go_ret
  exact ⟨rfl, HB3⟩
theorem clipB_q (n lo hi : Int) (h : lo ≤ hi) (w : World) : Calls Try.prog 26 #[.int .i64 n, .int .i64 lo, .int .i64 hi] w fun e w' => e = .returned (.int .i64 (clipI n lo hi)) ∧ w' = w :=
  (clipB n lo hi h w).mono fun _ _ ⟨he, hw⟩ => ⟨he, hw.symm⟩
/-- The greatest absolute value of two numbers. -/
def szI (x y : Int) : Int := max (max (max x (-x)) y) (-y)
set_option maxRecDepth 100000 in
theorem size_walk (x y : Int) (hx : -4294967296 ≤ x ∧ x ≤ 4294967296) (hy : -4294967296 ≤ y ∧ y ≤ 4294967296) (w : World) : Calls Try.prog 36 #[.agg #[.int .i64 x, .int .i64 y]] w fun e w' => e = .returned (.int .i64 (szI x y)) ∧ Below w.heap.size w w' := by
  have hb0 := (Below.refl w.heap.size w).alloc (Nat.le_refl _) (.cells #[.int .i64 x, .int .i64 y] 31)
  have hm : ∀ (W : World) (ts : Array TypeId) (t : TypeId), (Builtin.max_ ts t #[.int .i64 x, .int .i64 (-x), .int .i64 y, .int .i64 (-y)]).run Try.prog W = .ok (.int .i64 (szI x y)) W := fun W ts t => run_max4 W ts t x (-x) y (-y)
  obtain ⟨Z, hZ⟩ : ∃ z, szI x y = z := ⟨_, rfl⟩
  simp only [hZ] at hm ⊢
  clear hZ
  go_enter Try.func36, Try.ntmps36
  go_wp2
  go_ret
  exact ⟨rfl, hb0⟩
/-- What lies in memory. -/
structure VU (w0 w : World) (C : Cf) (a1 a2 a3 a4 : Addr) (n k c1 c2 c3 c4 : Nat) (gi : Nat) (fd fq vd vq tn mu mv I J : Int) : Prop where
  p : Blk w (w0.heap.size) 26 #[.int .i64 C.r, .int .i64 C.m, .slice (some a1) n c1, .slice (some a2) n c2, .slice (some a3) k c3, .slice (some a4) k c4, .int .i64 C.p, .int .i64 C.s, .int .i64 C.f]
  q : Blk w (w0.heap.size + 1) 33 #[.int .i64 fd, .int .i64 fq]
  t : Blk w (w0.heap.size + 1 + 1) 72 #[.int .i64 vd, .int .i64 vq, .int .i64 tn, .int .i64 mu, .int .i64 mv]
  i : Blk w (gi) 31 #[.int .i64 I, .int .i64 J]
  b : Below w0.heap.size w0 w
  l : Ly w w0.heap.size C (some a1) (some a2) (some a3) (some a4) n n k k
section
variable {w0 w w' : World} {C : Cf} {a1 a2 a3 a4 : Addr} {n k c1 c2 c3 c4 : Nat} {gi : Nat} {fd fq vd vq tn mu mv I J : Int}
theorem VU.all (h : VU w0 w C a1 a2 a3 a4 n k c1 c2 c3 c4 gi fd fq vd vq tn mu mv I J) : VU w0 w C a1 a2 a3 a4 n k c1 c2 c3 c4 gi fd fq vd vq tn mu mv I J ∧ w.cell? ⟨w0.heap.size, 0, none⟩ = some (.int .i64 C.r) ∧ w.cell? ⟨w0.heap.size, 1, none⟩ = some (.int .i64 C.m) ∧ w.cell? ⟨w0.heap.size, 2, none⟩ = some (.slice (some a1) n c1) ∧ w.cell? ⟨w0.heap.size, 3, none⟩ = some (.slice (some a2) n c2) ∧ w.cell? ⟨w0.heap.size, 4, none⟩ = some (.slice (some a3) k c3) ∧ w.cell? ⟨w0.heap.size, 5, none⟩ = some (.slice (some a4) k c4) ∧ w.cell? ⟨w0.heap.size, 6, none⟩ = some (.int .i64 C.p) ∧ w.cell? ⟨w0.heap.size, 7, none⟩ = some (.int .i64 C.s) ∧ w.cell? ⟨w0.heap.size, 8, none⟩ = some (.int .i64 C.f) ∧ w.cell? ⟨w0.heap.size + 1, 0, none⟩ = some (.int .i64 fd) ∧ w.cell? ⟨w0.heap.size + 1, 1, none⟩ = some (.int .i64 fq) ∧ w.cell? ⟨w0.heap.size + 1 + 1, 0, none⟩ = some (.int .i64 vd) ∧ w.cell? ⟨w0.heap.size + 1 + 1, 1, none⟩ = some (.int .i64 vq) ∧ w.cell? ⟨w0.heap.size + 1 + 1, 2, none⟩ = some (.int .i64 tn) ∧ w.cell? ⟨w0.heap.size + 1 + 1, 3, none⟩ = some (.int .i64 mu) ∧ w.cell? ⟨w0.heap.size + 1 + 1, 4, none⟩ = some (.int .i64 mv) ∧ w.cell? ⟨gi, 0, none⟩ = some (.int .i64 I) ∧ w.cell? ⟨gi, 1, none⟩ = some (.int .i64 J) := ⟨h, h.p.cell 0, h.p.cell 1, h.p.cell 2, h.p.cell 3, h.p.cell 4, h.p.cell 5, h.p.cell 6, h.p.cell 7, h.p.cell 8, h.q.cell 0, h.q.cell 1, h.t.cell 0, h.t.cell 1, h.t.cell 2, h.t.cell 3, h.t.cell 4, h.i.cell 0, h.i.cell 1⟩
theorem VU.drew (h : VU w0 w C a1 a2 a3 a4 n k c1 c2 c3 c4 gi fd fq vd vq tn mu mv I J) : VU w0 w.drew C a1 a2 a3 a4 n k c1 c2 c3 c4 gi fd fq vd vq tn mu mv I J := ⟨h.p.drew, h.q.drew, h.t.drew, h.i.drew, h.b.drew, h.l.drew⟩
theorem VU.one {Q : Prop} (h : VU w0 w C a1 a2 a3 a4 n k c1 c2 c3 c4 gi fd fq vd vq tn mu mv I J ∧ Q) : VU w0 w C a1 a2 a3 a4 n k c1 c2 c3 c4 gi fd fq vd vq tn mu mv I J := h.1
theorem VU.below (hb : Below w.heap.size w w') (h : VU w0 w C a1 a2 a3 a4 n k c1 c2 c3 c4 gi fd fq vd vq tn mu mv I J) : VU w0 w' C a1 a2 a3 a4 n k c1 c2 c3 c4 gi fd fq vd vq tn mu mv I J := ⟨h.p.below hb h.p.lt, h.q.below hb h.q.lt, h.t.below hb h.t.lt, h.i.below hb h.i.lt, h.b.trans (hb.mono h.b.size), h.l.below (hb.mono h.b.size)⟩
theorem VU.ly (h : VU w0 w C a1 a2 a3 a4 n k c1 c2 c3 c4 gi fd fq vd vq tn mu mv I J) : Ly w w.heap.size C (some a1) (some a2) (some a3) (some a4) n n k k := h.l.more h.b.size
end
theorem VU.alloc {w0 w : World} {C : Cf} {a1 a2 a3 a4 : Addr} {n k c1 c2 c3 c4 : Nat} {gi : Nat} {fd fq vd vq tn mu mv I J : Int} (h : VU w0 w C a1 a2 a3 a4 n k c1 c2 c3 c4 gi fd fq vd vq tn mu mv I J) (o : Obj) : VU w0 (w.alloc o) C a1 a2 a3 a4 n k c1 c2 c3 c4 gi fd fq vd vq tn mu mv I J := ⟨h.p.alloc o, h.q.alloc o, h.t.alloc o, h.i.alloc o, h.b.alloc h.b.size o, h.l.alloc h.b.size o⟩
theorem VU.set {w0 w : World} {C : Cf} {a1 a2 a3 a4 : Addr} {n k c1 c2 c3 c4 : Nat} {gi : Nat} {fd fq vd vq tn mu mv I J : Int} (h : VU w0 w C a1 a2 a3 a4 n k c1 c2 c3 c4 gi fd fq vd vq tn mu mv I J) {p : Addr} (h2 : w0.heap.size + 1 + 1 < p.block) (h3 : gi < p.block) (u : Value) : VU w0 (w.setCell p u) C a1 a2 a3 a4 n k c1 c2 c3 c4 gi fd fq vd vq tn mu mv I J := ⟨h.p.far (by omega) u, h.q.far (by omega) u, h.t.far (by omega) u, h.i.far (by omega) u, h.b.setCell (by omega) u, h.l.below ((Below.refl _ _).setCell (by omega) u)⟩
/-- What lies in memory, with the voltage. -/
structure VW (w0 w : World) (C : Cf) (a1 a2 a3 a4 : Addr) (n k c1 c2 c3 c4 : Nat) (gi gv : Nat) (fd fq vd vq tn mu mv I J K1 K2 : Int) : Prop where
  p : Blk w (w0.heap.size) 26 #[.int .i64 C.r, .int .i64 C.m, .slice (some a1) n c1, .slice (some a2) n c2, .slice (some a3) k c3, .slice (some a4) k c4, .int .i64 C.p, .int .i64 C.s, .int .i64 C.f]
  q : Blk w (w0.heap.size + 1) 33 #[.int .i64 fd, .int .i64 fq]
  t : Blk w (w0.heap.size + 1 + 1) 72 #[.int .i64 vd, .int .i64 vq, .int .i64 tn, .int .i64 mu, .int .i64 mv]
  i : Blk w (gi) 31 #[.int .i64 I, .int .i64 J]
  v : Blk w (gv) 31 #[.int .i64 K1, .int .i64 K2]
  b : Below w0.heap.size w0 w
  l : Ly w w0.heap.size C (some a1) (some a2) (some a3) (some a4) n n k k
section
variable {w0 w w' : World} {C : Cf} {a1 a2 a3 a4 : Addr} {n k c1 c2 c3 c4 : Nat} {gi gv : Nat} {fd fq vd vq tn mu mv I J K1 K2 : Int}
theorem VW.all (h : VW w0 w C a1 a2 a3 a4 n k c1 c2 c3 c4 gi gv fd fq vd vq tn mu mv I J K1 K2) : VW w0 w C a1 a2 a3 a4 n k c1 c2 c3 c4 gi gv fd fq vd vq tn mu mv I J K1 K2 ∧ w.cell? ⟨w0.heap.size, 0, none⟩ = some (.int .i64 C.r) ∧ w.cell? ⟨w0.heap.size, 1, none⟩ = some (.int .i64 C.m) ∧ w.cell? ⟨w0.heap.size, 2, none⟩ = some (.slice (some a1) n c1) ∧ w.cell? ⟨w0.heap.size, 3, none⟩ = some (.slice (some a2) n c2) ∧ w.cell? ⟨w0.heap.size, 4, none⟩ = some (.slice (some a3) k c3) ∧ w.cell? ⟨w0.heap.size, 5, none⟩ = some (.slice (some a4) k c4) ∧ w.cell? ⟨w0.heap.size, 6, none⟩ = some (.int .i64 C.p) ∧ w.cell? ⟨w0.heap.size, 7, none⟩ = some (.int .i64 C.s) ∧ w.cell? ⟨w0.heap.size, 8, none⟩ = some (.int .i64 C.f) ∧ w.cell? ⟨w0.heap.size + 1, 0, none⟩ = some (.int .i64 fd) ∧ w.cell? ⟨w0.heap.size + 1, 1, none⟩ = some (.int .i64 fq) ∧ w.cell? ⟨w0.heap.size + 1 + 1, 0, none⟩ = some (.int .i64 vd) ∧ w.cell? ⟨w0.heap.size + 1 + 1, 1, none⟩ = some (.int .i64 vq) ∧ w.cell? ⟨w0.heap.size + 1 + 1, 2, none⟩ = some (.int .i64 tn) ∧ w.cell? ⟨w0.heap.size + 1 + 1, 3, none⟩ = some (.int .i64 mu) ∧ w.cell? ⟨w0.heap.size + 1 + 1, 4, none⟩ = some (.int .i64 mv) ∧ w.cell? ⟨gi, 0, none⟩ = some (.int .i64 I) ∧ w.cell? ⟨gi, 1, none⟩ = some (.int .i64 J) ∧ w.cell? ⟨gv, 0, none⟩ = some (.int .i64 K1) ∧ w.cell? ⟨gv, 1, none⟩ = some (.int .i64 K2) := ⟨h, h.p.cell 0, h.p.cell 1, h.p.cell 2, h.p.cell 3, h.p.cell 4, h.p.cell 5, h.p.cell 6, h.p.cell 7, h.p.cell 8, h.q.cell 0, h.q.cell 1, h.t.cell 0, h.t.cell 1, h.t.cell 2, h.t.cell 3, h.t.cell 4, h.i.cell 0, h.i.cell 1, h.v.cell 0, h.v.cell 1⟩
theorem VW.drew (h : VW w0 w C a1 a2 a3 a4 n k c1 c2 c3 c4 gi gv fd fq vd vq tn mu mv I J K1 K2) : VW w0 w.drew C a1 a2 a3 a4 n k c1 c2 c3 c4 gi gv fd fq vd vq tn mu mv I J K1 K2 := ⟨h.p.drew, h.q.drew, h.t.drew, h.i.drew, h.v.drew, h.b.drew, h.l.drew⟩
theorem VW.one {Q : Prop} (h : VW w0 w C a1 a2 a3 a4 n k c1 c2 c3 c4 gi gv fd fq vd vq tn mu mv I J K1 K2 ∧ Q) : VW w0 w C a1 a2 a3 a4 n k c1 c2 c3 c4 gi gv fd fq vd vq tn mu mv I J K1 K2 := h.1
theorem VW.below (hb : Below w.heap.size w w') (h : VW w0 w C a1 a2 a3 a4 n k c1 c2 c3 c4 gi gv fd fq vd vq tn mu mv I J K1 K2) : VW w0 w' C a1 a2 a3 a4 n k c1 c2 c3 c4 gi gv fd fq vd vq tn mu mv I J K1 K2 := ⟨h.p.below hb h.p.lt, h.q.below hb h.q.lt, h.t.below hb h.t.lt, h.i.below hb h.i.lt, h.v.below hb h.v.lt, h.b.trans (hb.mono h.b.size), h.l.below (hb.mono h.b.size)⟩
theorem VW.ly (h : VW w0 w C a1 a2 a3 a4 n k c1 c2 c3 c4 gi gv fd fq vd vq tn mu mv I J K1 K2) : Ly w w.heap.size C (some a1) (some a2) (some a3) (some a4) n n k k := h.l.more h.b.size
end
theorem VW.alloc {w0 w : World} {C : Cf} {a1 a2 a3 a4 : Addr} {n k c1 c2 c3 c4 : Nat} {gi gv : Nat} {fd fq vd vq tn mu mv I J K1 K2 : Int} (h : VW w0 w C a1 a2 a3 a4 n k c1 c2 c3 c4 gi gv fd fq vd vq tn mu mv I J K1 K2) (o : Obj) : VW w0 (w.alloc o) C a1 a2 a3 a4 n k c1 c2 c3 c4 gi gv fd fq vd vq tn mu mv I J K1 K2 := ⟨h.p.alloc o, h.q.alloc o, h.t.alloc o, h.i.alloc o, h.v.alloc o, h.b.alloc h.b.size o, h.l.alloc h.b.size o⟩
theorem VW.set {w0 w : World} {C : Cf} {a1 a2 a3 a4 : Addr} {n k c1 c2 c3 c4 : Nat} {gi gv : Nat} {fd fq vd vq tn mu mv I J K1 K2 : Int} (h : VW w0 w C a1 a2 a3 a4 n k c1 c2 c3 c4 gi gv fd fq vd vq tn mu mv I J K1 K2) {p : Addr} (h2 : w0.heap.size + 1 + 1 < p.block) (h3 : gi < p.block) (h4 : gv < p.block) (u : Value) : VW w0 (w.setCell p u) C a1 a2 a3 a4 n k c1 c2 c3 c4 gi gv fd fq vd vq tn mu mv I J K1 K2 := ⟨h.p.far (by omega) u, h.q.far (by omega) u, h.t.far (by omega) u, h.i.far (by omega) u, h.v.far (by omega) u, h.b.setCell (by omega) u, h.l.below ((Below.refl _ _).setCell (by omega) u)⟩
set_option maxRecDepth 100000 in
set_option maxHeartbeats 3200000 in
theorem machineRises_ok (C : Cf) (a1 a2 a3 a4 : Addr) (n k c1 c2 c3 c4 : Nat) (fd fq vd vq tn mu mv : Int) (w : World) (L : Ly w w.heap.size C (some a1) (some a2) (some a3) (some a4) n n k k) (hl : lgB n n k k = false) (hc : cfCode C = 0) :
    Calls Try.prog 11 #[.agg #[.int .i64 C.r, .int .i64 C.m, .slice (some a1) n c1, .slice (some a2) n c2, .slice (some a3) k c3, .slice (some a4) k c4, .int .i64 C.p, .int .i64 C.s, .int .i64 C.f], .agg #[.int .i64 fd, .int .i64 fq], .agg #[.int .i64 vd, .int .i64 vq, .int .i64 tn, .int .i64 mu, .int .i64 mv]] w fun e w' => e = .returned (.bool true) ∧ Below w.heap.size w w' := by
  have HB0 := (((Below.refl w.heap.size w).alloc (Nat.le_refl _) (.cells #[.int .i64 C.r, .int .i64 C.m, .slice (some a1) n c1, .slice (some a2) n c2, .slice (some a3) k c3, .slice (some a4) k c4, .int .i64 C.p, .int .i64 C.s, .int .i64 C.f] 26)).alloc (by simp) (.cells #[.int .i64 fd, .int .i64 fq] 33)).alloc (by simp <;> omega) (.cells #[.int .i64 vd, .int .i64 vq, .int .i64 tn, .int .i64 mu, .int .i64 mv] 72)
  have L0 := (((L).new (.cells #[.int .i64 C.r, .int .i64 C.m, .slice (some a1) n c1, .slice (some a2) n c2, .slice (some a3) k c3, .slice (some a4) k c4, .int .i64 C.p, .int .i64 C.s, .int .i64 C.f] 26)).new (.cells #[.int .i64 fd, .int .i64 fq] 33)).new (.cells #[.int .i64 vd, .int .i64 vq, .int .i64 tn, .int .i64 mu, .int .i64 mv] 72)
  have gc_0 := (((Blk.new w 26 #[.int .i64 C.r, .int .i64 C.m, .slice (some a1) n c1, .slice (some a2) n c2, .slice (some a3) k c3, .slice (some a4) k c4, .int .i64 C.p, .int .i64 C.s, .int .i64 C.f]).alloc (.cells #[.int .i64 fd, .int .i64 fq] 33)).alloc (.cells #[.int .i64 vd, .int .i64 vq, .int .i64 tn, .int .i64 mu, .int .i64 mv] 72))
  have gs_0 := ((Blk.new' (w := (w).alloc (.cells #[.int .i64 C.r, .int .i64 C.m, .slice (some a1) n c1, .slice (some a2) n c2, .slice (some a3) k c3, .slice (some a4) k c4, .int .i64 C.p, .int .i64 C.s, .int .i64 C.f] 26)) (t := 33) (cs := #[.int .i64 fd, .int .i64 fq]) (g := w.heap.size + 1) (by simp)).alloc (.cells #[.int .i64 vd, .int .i64 vq, .int .i64 tn, .int .i64 mu, .int .i64 mv] 72))
  have gx_0 := (Blk.new' (w := ((w).alloc (.cells #[.int .i64 C.r, .int .i64 C.m, .slice (some a1) n c1, .slice (some a2) n c2, .slice (some a3) k c3, .slice (some a4) k c4, .int .i64 C.p, .int .i64 C.s, .int .i64 C.f] 26)).alloc (.cells #[.int .i64 fd, .int .i64 fq] 33)) (t := 72) (cs := #[.int .i64 vd, .int .i64 vq, .int .i64 tn, .int .i64 mu, .int .i64 mv]) (g := w.heap.size + 1 + 1) (by simp))
  have ok := cf_ok hc
  have bI := curD_bd ok fd
  have bJ := curQ_bd ok fq
  obtain ⟨K1, hK1⟩ : ∃ x, clipI vd (-1048576) 1048576 = x := ⟨_, rfl⟩
  obtain ⟨K2, hK2⟩ : ∃ x, clipI vq (-1048576) 1048576 = x := ⟨_, rfl⟩
  obtain ⟨T, hT⟩ : ∃ x, clipI tn (-16384) 16384 = x := ⟨_, rfl⟩
  have bK1 := clipI_in vd (-1048576) 1048576 (by omega)
  have bK2 := clipI_in vq (-1048576) 1048576 (by omega)
  have bT := clipI_in tn (-16384) 16384 (by omega)
  rw [hK1] at bK1
  rw [hK2] at bK2
  rw [hT] at bT
  have q1 := fun W => clipB vd (-1048576) 1048576 (by omega) W
  have q2 := fun W => clipB vq (-1048576) 1048576 (by omega) W
  have q3 := fun W => clipB tn (-16384) 16384 (by omega) W
  simp only [hK1] at q1
  simp only [hK2] at q2
  simp only [hT] at q3
  obtain ⟨SV, hSV⟩ : ∃ x, szI K1 K2 = x := ⟨_, rfl⟩
  have hSVd : SV = max (max (max K1 (-K1)) K2) (-K2) := hSV.symm
  have bSV : 0 ≤ SV ∧ SV ≤ 1048576 ∧ K1 ≤ SV ∧ -K1 ≤ SV ∧ K2 ≤ SV ∧ -K2 ≤ SV := by omega
  clear hSVd
  obtain ⟨TT, hTT⟩ : ∃ x, max T (-T) = x := ⟨_, rfl⟩
  have bTT : 0 ≤ TT ∧ TT ≤ 16384 ∧ T ≤ TT ∧ -T ≤ TT := by omega
  have b5 := clipI_in mu 0 100 (by omega)
  have b6 := clipI_in mv 0 100 (by omega)
  obtain ⟨M1, hM1⟩ : ∃ x, clipI mu 0 100 = x := ⟨_, rfl⟩
  obtain ⟨M2, hM2⟩ : ∃ x, clipI mv 0 100 = x := ⟨_, rfl⟩
  rw [hM1] at b5
  rw [hM2] at b6
  obtain ⟨I, hI⟩ : ∃ x, curD C fd = x := ⟨_, rfl⟩
  obtain ⟨J, hJ⟩ : ∃ x, curQ C fq = x := ⟨_, rfl⟩
  rw [hI] at bI
  rw [hJ] at bJ
  obtain ⟨SI, hSI⟩ : ∃ x, szI I J = x := ⟨_, rfl⟩
  have hSId : SI = max (max (max I (-I)) J) (-J) := hSI.symm
  have bSI : 0 ≤ SI ∧ SI ≤ 1048576 ∧ I ≤ SI ∧ -I ≤ SI ∧ J ≤ SI ∧ -J ≤ SI := by omega
  clear hSId
  have hCC : clipI SI 0 1048576 = SI := by unfold clipI; rw [if_neg (by omega), if_neg (by omega)]
  obtain ⟨BT, hBT⟩ : ∃ x, clipI (TT + M1) 0 16384 = x := ⟨_, rfl⟩
  have bBT : 0 ≤ BT ∧ BT ≤ 16384 ∧ TT ≤ BT := by rw [← hBT]; unfold clipI; split <;> (try split) <;> omega
  obtain ⟨BC, hBC⟩ : ∃ x, clipI (SI + M2) 0 1048576 = x := ⟨_, rfl⟩
  have bBC : 0 ≤ BC ∧ BC ≤ 1048576 ∧ SI ≤ BC := by rw [← hBC]; unfold clipI; split <;> (try split) <;> omega
  have hlaw := rises ok (fd := fd) (fq := fq) (vd := K1) (vq := K2) (tn := T) (bv := SV) (bt := BT) (bc := BC) (by omega) (by omega) (by omega) (by omega) (by omega) (by rw [hI]; omega) (by rw [hJ]; omega)
  have hbd : bdCode SV BT BC = 0 := by unfold bdCode; rw [if_pos ⟨wiB_iff.2 (by omega), wiB_iff.2 (by omega), wiB_iff.2 (by omega)⟩]
  have hs1 := fun W => size_walk K1 K2 (by omega) (by omega) W
  have hs2 := fun W => size_walk I J (by omega) (by omega) W
  simp only [hSV] at hs1
  simp only [hSI] at hs2
  have q4 := fun W => clipB SI 0 1048576 (by omega) W
  simp only [hCC] at q4
  have q5 := fun W => clipB_q mu 0 100 (by omega) W
  have q6 := fun W => clipB_q (TT + M1) 0 16384 (by omega) W
  have q7 := fun W => clipB_q mv 0 100 (by omega) W
  have q8 := fun W => clipB_q (SI + M2) 0 1048576 (by omega) W
  simp only [hM1] at q5
  simp only [hBT] at q6
  simp only [hM2] at q7
  simp only [hBC] at q8
  rw [hI, hJ] at hlaw
  obtain ⟨R, hR⟩ : ∃ x, riI C SV BT BC = x := ⟨_, rfl⟩
  obtain ⟨x, hx⟩ : ∃ z, C.m + inX C.dx (stD C fd fq K1 T - C.m) = z := ⟨_, rfl⟩
  obtain ⟨y, hy⟩ : ∃ z, inX C.qx (stQ C fd fq K2 T) = z := ⟨_, rfl⟩
  rw [hx, hy, hR] at hlaw
  have bI2 := curD_bd ok x
  have bJ2 := curQ_bd ok y
  obtain ⟨I2, hI2⟩ : ∃ z, curD C x = z := ⟨_, rfl⟩
  obtain ⟨J2, hJ2⟩ : ∃ z, curQ C y = z := ⟨_, rfl⟩
  rw [hI2, hJ2] at hlaw
  rw [hI2] at bI2
  rw [hJ2] at bJ2
  have hs3 := fun W => size_walk (I2 - I) (J2 - J) (by omega) (by omega) W
  have hfin : szI (I2 - I) (J2 - J) ≤ R := by unfold szI; omega
  obtain ⟨Z, hZ⟩ : ∃ z, szI (I2 - I) (J2 - J) = z := ⟨_, rfl⟩
  simp only [hZ] at hs3
  rw [hZ] at hfin
  have e1 : IntKind.i64.wrap (TT + M1) = TT + M1 := IntWalk.i64_in _ (by omega)
  have e2 : IntKind.i64.wrap (SI + M2) = SI + M2 := IntWalk.i64_in _ (by omega)
  have e3 : wrap64 (-T) = -T := by unfold wrap64; omega
  have e4 : IntKind.i64.wrap (-T) = -T := IntWalk.i64_in _ (by omega)
  have Q1 := hide q1
  have Q2 := hide q2
  have Q3 := hide q3
  have Q4 := hide q4
  have Q5 := hide q5
  have Q6 := hide q6
  have Q7 := hide q7
  have Q8 := hide q8
  have HS1 := hide hs1
  have HS2 := hide hs2
  have HS3 := hide hs3
  have hva := fun (W : World) (h : Ly W W.heap.size C (some a1) (some a2) (some a3) (some a4) n n k k) => valid_ok C (some a1) (some a2) (some a3) (some a4) n n k k c1 c2 c3 c4 W h hl hc
  have hcu := fun (W : World) (h : Ly W W.heap.size C (some a1) (some a2) (some a3) (some a4) n n k k) => currentsM C a1 a2 a3 a4 n k c1 c2 c3 c4 fd fq W h hc
  simp only [hI, hJ] at hcu
  have hri := fun (W : World) (h : Ly W W.heap.size C (some a1) (some a2) (some a3) (some a4) n n k k) => riseM C a1 a2 a3 a4 n k c1 c2 c3 c4 SV BT BC W h hc hbd
  simp only [hR] at hri
  have hst := fun (W : World) (h : Ly W W.heap.size C (some a1) (some a2) (some a3) (some a4) n n k k) => stepM C a1 a2 a3 a4 n k c1 c2 c3 c4 fd fq K1 K2 T W h hc
  simp only [hx, hy] at hst
  have hcv := fun (W : World) (h : Ly W W.heap.size C (some a1) (some a2) (some a3) (some a4) n n k k) => currentsM C a1 a2 a3 a4 n k c1 c2 c3 c4 x y W h hc
  simp only [hI2, hJ2] at hcv
  have HVA := hide hva
  have HCU := hide hcu
  have HRI := hide hri
  have HST := hide hst
  have HCV := hide hcv
  clear hva hcu hri hst hcv hl hc ok q1 q2 q3 q4 q5 q6 q7 q8 hs1 hs2 hs3 hK1 hK2 hT hSV hM1 hM2 hI hJ hSI hCC hBT hBC hlaw hbd hR hx hy hI2 hJ2 hZ
  go_enter Try.func11, Try.ntmps11
  go_wp2_with fail
  with_reducible refine (awake_walk _).mono ?_
  rintro e w1 ⟨rfl, hb1⟩
  have HB1 := HB0.trans (hb1.mono HB0.size)
  have gc_1 := gc_0.below hb1 gc_0.lt
  have lgc_1 := gc_1.lt
  have gs_1 := gs_0.below hb1 gs_0.lt
  have lgs_1 := gs_1.lt
  have gx_1 := gx_0.below hb1 gx_0.lt
  have lgx_1 := gx_1.lt
  have L1 := L0.to hb1
  obtain ⟨gcc0, gcc1, gcc2, gcc3, gcc4, gcc5, gcc6, gcc7, gcc8⟩ := gc_1.c9
  obtain ⟨gsc0, gsc1⟩ := gs_1.c2
  obtain ⟨gxc0, gxc1, gxc2, gxc3, gxc4⟩ := gx_1.c5
  go_wp2_with fail
  with_reducible refine ((unhide HVA) _ L1).mono ?_
  rintro e w2 ⟨rfl, hb2⟩
  have HB2 := HB1.trans (hb2.mono HB1.size)
  have gc_2 := gc_1.below hb2 gc_1.lt
  have lgc_2 := gc_2.lt
  have gs_2 := gs_1.below hb2 gs_1.lt
  have lgs_2 := gs_2.lt
  have gx_2 := gx_1.below hb2 gx_1.lt
  have lgx_2 := gx_2.lt
  have L2 := L1.to hb2
  clear gcc0 gcc1 gcc2 gcc3 gcc4 gcc5 gcc6 gcc7 gcc8 gsc0 gsc1 gxc0 gxc1 gxc2 gxc3 gxc4
  obtain ⟨gcc0, gcc1, gcc2, gcc3, gcc4, gcc5, gcc6, gcc7, gcc8⟩ := gc_2.c9
  obtain ⟨gsc0, gsc1⟩ := gs_2.c2
  obtain ⟨gxc0, gxc1, gxc2, gxc3, gxc4⟩ := gx_2.c5
  go_wp2_with fail
  with_reducible refine ((unhide HCU) _ L2).mono ?_
  rintro e w3 ⟨rfl, hb3⟩
  have HB3 := HB2.trans (hb3.mono HB2.size)
  have gc_3 := gc_2.below hb3 gc_2.lt
  have lgc_3 := gc_3.lt
  have gs_3 := gs_2.below hb3 gs_2.lt
  have lgs_3 := gs_3.lt
  have gx_3 := gx_2.below hb3 gx_2.lt
  have lgx_3 := gx_3.lt
  have L3 := L2.to hb3
  clear gcc0 gcc1 gcc2 gcc3 gcc4 gcc5 gcc6 gcc7 gcc8 gsc0 gsc1 gxc0 gxc1 gxc2 gxc3 gxc4
  obtain ⟨gcc0, gcc1, gcc2, gcc3, gcc4, gcc5, gcc6, gcc7, gcc8⟩ := gc_3.c9
  obtain ⟨gsc0, gsc1⟩ := gs_3.c2
  obtain ⟨gxc0, gxc1, gxc2, gxc3, gxc4⟩ := gx_3.c5
  go_wp2_with fail
  have ga := Blk.new w3 31 #[.int .i64 I, .int .i64 J]
  have HA := HB3.alloc HB3.size (.cells #[.int .i64 I, .int .i64 J] 31)
  have gc_a := gc_3.alloc (.cells #[.int .i64 I, .int .i64 J] 31)
  have gs_a := gs_3.alloc (.cells #[.int .i64 I, .int .i64 J] 31)
  have gx_a := gx_3.alloc (.cells #[.int .i64 I, .int .i64 J] 31)
  obtain ⟨gi, hgi⟩ : ∃ b, w3.heap.size = b := ⟨_, rfl⟩
  obtain ⟨wa, hwa⟩ : ∃ W, w3.alloc (.cells #[.int .i64 I, .int .i64 J] 31) = W := ⟨_, rfl⟩
  simp only [hwa, hgi] at ga HA gc_a gs_a gx_a ⊢
  clear hwa hgi
  have has : VU w wa C a1 a2 a3 a4 n k c1 c2 c3 c4 gi fd fq vd vq tn mu mv I J := ⟨gc_a, gs_a, gx_a, ga, HA, L.below HA⟩
  have lA := ga.lt
  have lA2 := gx_a.lt
  have lA1 := gs_a.lt
  have lA0 := gc_a.lt
  clear gcc0 gcc1 gcc2 gcc3 gcc4 gcc5 gcc6 gcc7 gcc8 gsc0 gsc1 gxc0 gxc1 gxc2 gxc3 gxc4 gc_a gs_a gx_a ga HA
  go_cut [9] from 32 to 40 (fun u9 wx => ∃ b, u9 = .pointer (some ⟨b, 0, none⟩) ∧ VU w wx C a1 a2 a3 a4 n k c1 c2 c3 c4 gi fd fq vd vq tn mu mv I J ∧ Blk wx b 31 #[.int .i64 K1, .int .i64 K2])
  case first =>
    go_region_held3 (fun w' => VU w w' C a1 a2 a3 a4 n k c1 c2 c3 c4 gi fd fq vd vq tn mu mv I J ∧ w'.cell? ⟨w.heap.size, 0, none⟩ = some (.int .i64 C.r) ∧ w'.cell? ⟨w.heap.size, 1, none⟩ = some (.int .i64 C.m) ∧ w'.cell? ⟨w.heap.size, 2, none⟩ = some (.slice (some a1) n c1) ∧ w'.cell? ⟨w.heap.size, 3, none⟩ = some (.slice (some a2) n c2) ∧ w'.cell? ⟨w.heap.size, 4, none⟩ = some (.slice (some a3) k c3) ∧ w'.cell? ⟨w.heap.size, 5, none⟩ = some (.slice (some a4) k c4) ∧ w'.cell? ⟨w.heap.size, 6, none⟩ = some (.int .i64 C.p) ∧ w'.cell? ⟨w.heap.size, 7, none⟩ = some (.int .i64 C.s) ∧ w'.cell? ⟨w.heap.size, 8, none⟩ = some (.int .i64 C.f) ∧ w'.cell? ⟨w.heap.size + 1, 0, none⟩ = some (.int .i64 fd) ∧ w'.cell? ⟨w.heap.size + 1, 1, none⟩ = some (.int .i64 fq) ∧ w'.cell? ⟨w.heap.size + 1 + 1, 0, none⟩ = some (.int .i64 vd) ∧ w'.cell? ⟨w.heap.size + 1 + 1, 1, none⟩ = some (.int .i64 vq) ∧ w'.cell? ⟨w.heap.size + 1 + 1, 2, none⟩ = some (.int .i64 tn) ∧ w'.cell? ⟨w.heap.size + 1 + 1, 3, none⟩ = some (.int .i64 mu) ∧ w'.cell? ⟨w.heap.size + 1 + 1, 4, none⟩ = some (.int .i64 mv) ∧ w'.cell? ⟨gi, 0, none⟩ = some (.int .i64 I) ∧ w'.cell? ⟨gi, 1, none⟩ = some (.int .i64 J))
      (first | (refine VU.all ?_; repeat (first | with_reducible exact has | with_reducible refine VU.drew ?_ | with_reducible refine VU.alloc ?_ _)))
      (first | (go_at_call 26; (with_reducible refine ((unhide Q1) _).mono ?_); rintro e w' ⟨rfl, rfl⟩) | (go_at_call 26; (with_reducible refine ((unhide Q2) _).mono ?_); rintro e w' ⟨rfl, rfl⟩))
    all_goals
      go_wp2_with fail
      go_meet
      case rel =>
        first
          | exact ⟨_, rfl, has.drew.alloc _, Blk.new _ _ _⟩
          | exact ⟨_, rfl, (has.alloc _).drew, (Blk.new _ _ _).drew⟩
  case rest =>
    obtain ⟨gv, rfl, hv1, gvb⟩ := hcut
    have has2 : VW w wc C a1 a2 a3 a4 n k c1 c2 c3 c4 gi gv fd fq vd vq tn mu mv I J K1 K2 := ⟨hv1.p, hv1.q, hv1.t, hv1.i, gvb, hv1.b, hv1.l⟩
    obtain ⟨t0, t1, t2, t3, t4⟩ := has2.t.c5
    obtain ⟨v0, v1⟩ := has2.v.c2
    obtain ⟨i0, i1⟩ := has2.i.c2
    have lv := has2.v.lt
    have li := has2.i.lt
    have lt := has2.t.lt
    clear has hv1 gvb lA lA0 lA1 lA2
    go_wp2_with (first | (go_at_call 26; (with_reducible refine ((unhide Q3) _).mono ?_); rintro e w' ⟨rfl, rfl⟩))
    go_cut [11] from 44 to 53 (fun u11 wx => ∃ b, u11 = .pointer (some ⟨b, 0, none⟩) ∧ w.heap.size ≤ b ∧ VW w wx C a1 a2 a3 a4 n k c1 c2 c3 c4 gi gv fd fq vd vq tn mu mv I J K1 K2 ∧ Blk wx b 65 #[.int .i64 SV, .int .i64 TT, .int .i64 SI])
    case first =>
      clear t0 t1 t2 t3 t4
      go_region_held3 (fun w' => VW w w' C a1 a2 a3 a4 n k c1 c2 c3 c4 gi gv fd fq vd vq tn mu mv I J K1 K2 ∧ w'.cell? ⟨w.heap.size, 0, none⟩ = some (.int .i64 C.r) ∧ w'.cell? ⟨w.heap.size, 1, none⟩ = some (.int .i64 C.m) ∧ w'.cell? ⟨w.heap.size, 2, none⟩ = some (.slice (some a1) n c1) ∧ w'.cell? ⟨w.heap.size, 3, none⟩ = some (.slice (some a2) n c2) ∧ w'.cell? ⟨w.heap.size, 4, none⟩ = some (.slice (some a3) k c3) ∧ w'.cell? ⟨w.heap.size, 5, none⟩ = some (.slice (some a4) k c4) ∧ w'.cell? ⟨w.heap.size, 6, none⟩ = some (.int .i64 C.p) ∧ w'.cell? ⟨w.heap.size, 7, none⟩ = some (.int .i64 C.s) ∧ w'.cell? ⟨w.heap.size, 8, none⟩ = some (.int .i64 C.f) ∧ w'.cell? ⟨w.heap.size + 1, 0, none⟩ = some (.int .i64 fd) ∧ w'.cell? ⟨w.heap.size + 1, 1, none⟩ = some (.int .i64 fq) ∧ w'.cell? ⟨w.heap.size + 1 + 1, 0, none⟩ = some (.int .i64 vd) ∧ w'.cell? ⟨w.heap.size + 1 + 1, 1, none⟩ = some (.int .i64 vq) ∧ w'.cell? ⟨w.heap.size + 1 + 1, 2, none⟩ = some (.int .i64 tn) ∧ w'.cell? ⟨w.heap.size + 1 + 1, 3, none⟩ = some (.int .i64 mu) ∧ w'.cell? ⟨w.heap.size + 1 + 1, 4, none⟩ = some (.int .i64 mv) ∧ w'.cell? ⟨gi, 0, none⟩ = some (.int .i64 I) ∧ w'.cell? ⟨gi, 1, none⟩ = some (.int .i64 J) ∧ w'.cell? ⟨gv, 0, none⟩ = some (.int .i64 K1) ∧ w'.cell? ⟨gv, 1, none⟩ = some (.int .i64 K2))
        (first | (refine VW.all ?_; repeat (first | with_reducible exact has2 | with_reducible exact hasE | with_reducible exact hasS | with_reducible refine VW.drew ?_ | with_reducible refine VW.alloc ?_ _ | ((with_reducible refine VW.set ?_ ?_ ?_ ?_ _); rotate_left; (first | exact hasS.t.lt | exact hasE.t.lt | exact has2.t.lt); (first | exact hasS.i.lt | exact hasE.i.lt | exact has2.i.lt); (first | exact hasS.v.lt | exact hasE.v.lt | exact has2.v.lt)))))
        (first | (go_at_call 26; (with_reducible refine ((unhide Q4) _).mono ?_); rintro e w' ⟨rfl, rfl⟩) | (go_at_call 36; (with_reducible refine ((unhide HS1) _).mono ?_); rintro e wE ⟨rfl, hbE⟩; have hasE := VW.below hbE (VW.one ‹VW w _ _ _ _ _ _ _ _ _ _ _ _ _ _ _ _ _ _ _ _ _ _ _ _ _ ∧ _›); (try (have gC := (Blk.new wc.drew 65 #[.int .i64 0, .int .i64 0, .int .i64 0]).below hbE (Blk.new wc.drew 65 #[.int .i64 0, .int .i64 0, .int .i64 0]).lt; have lC := gC.lt)); (try (have gC := (Blk.new wc 65 #[.int .i64 0, .int .i64 0, .int .i64 0]).drew.below hbE (Blk.new wc 65 #[.int .i64 0, .int .i64 0, .int .i64 0]).drew.lt; have lC := gC.lt))) | (go_at_call 36; (with_reducible refine ((unhide HS2) _).mono ?_); rintro e wS ⟨rfl, hbS⟩; have hasS := VW.below hbS (VW.one ‹VW w _ _ _ _ _ _ _ _ _ _ _ _ _ _ _ _ _ _ _ _ _ _ _ _ _ ∧ _›); (try (have gD := gC.below hbS gC.lt; have lD := gD.lt; have c0 := gD.c3.1; have c1 := gD.c3.2.1; have c2 := gD.c3.2.2; have f0 := gD.frozen 0; have f1 := gD.frozen 1; have f2 := gD.frozen 2)); (try (have gD := (Blk.new wE 65 #[.int .i64 0, .int .i64 0, .int .i64 0]).below hbS (Blk.new wE 65 #[.int .i64 0, .int .i64 0, .int .i64 0]).lt; have lD := gD.lt; have c0 := gD.c3.1; have c1 := gD.c3.2.1; have c2 := gD.c3.2.2; have f0 := gD.frozen 0; have f1 := gD.frozen 1; have f2 := gD.frozen 2))))
      all_goals
        go_wp2_with fail
        go_meet
        case rel =>
          first
            | exact ⟨_, rfl, hasS.b.size, hasS.alloc _, Blk.new wS _ _⟩
            | exact ⟨_, rfl, (by first | exact hasE.b.size | exact has2.b.size), ((hasS.set (by first | exact hasE.t.lt | exact has2.t.lt) (by first | exact hasE.i.lt | exact has2.i.lt) (by first | exact hasE.v.lt | exact has2.v.lt) _).set (by first | exact hasE.t.lt | exact has2.t.lt) (by first | exact hasE.i.lt | exact has2.i.lt) (by first | exact hasE.v.lt | exact has2.v.lt) _).set (by first | exact hasE.t.lt | exact has2.t.lt) (by first | exact hasE.i.lt | exact has2.i.lt) (by first | exact hasE.v.lt | exact has2.v.lt) _, ((gD.set_ 0 _).set_ 1 _).set_ 2 _⟩
    case rest =>
      obtain ⟨gb, rfl, hwb, has3, gbb⟩ := hcut
      clear t0 t1 t2 t3 t4 v0 v1 i0 i1 lv li lt has2
      obtain ⟨wp, hwp⟩ : ∃ W, W = wc := ⟨_, rfl⟩
      rw [← hwp] at has3 gbb ⊢
      clear hwp
      obtain ⟨t0, t1, t2, t3, t4⟩ := has3.t.c5
      obtain ⟨b0, b1, b2⟩ := gbb.c3
      have lt := has3.t.lt
      have lb := gbb.lt
      have fb1 := gbb.frozen 1
      have hgi : gi ≠ gb := has3.i.ne_ gbb (by decide)
      have hgv : gv ≠ gb := has3.v.ne_ gbb (by decide)
      have hgc : w.heap.size ≠ gb := has3.p.ne_ gbb (by decide)
      have hgs : w.heap.size + 1 ≠ gb := has3.q.ne_ gbb (by decide)
      have hgx : w.heap.size + 1 + 1 ≠ gb := has3.t.ne_ gbb (by decide)
      go_wp2_with fail
      refine wp_region_still_tail 9 (by kernel_rfl) (by kernel_rfl) ?_
      simp only [List.take_succ_cons, List.take_zero, List.drop_succ_cons, List.drop_zero]
      repeat still_step
      still_call ((unhide Q5) _)
      repeat still_step
      still_call ((unhide Q6) _)
      repeat still_step
      refine wpStill_nil ?_
      change wpList _ _ _ _ _ wp.drew
      go_wp2_with fail
      clear t0 t1 t2 t3 t4 b0 b1 b2 lt lb fb1
      obtain ⟨wq, hwq⟩ : ∃ W, (wp.setCell ⟨gb, 1, none⟩ (.int .i64 BT)).drew = W := ⟨_, rfl⟩
      have has4 : VW w wq C a1 a2 a3 a4 n k c1 c2 c3 c4 gi gv fd fq vd vq tn mu mv I J K1 K2 := by rw [← hwq]; exact (VW.mk (has3.p.far hgc _) (has3.q.far hgs _) (has3.t.far hgx _) (has3.i.far hgi _) (has3.v.far hgv _) (has3.b.setCell hwb _) (has3.l.below ((Below.refl _ _).setCell hwb _))).drew
      have gbb2 : Blk wq gb 65 #[.int .i64 SV, .int .i64 BT, .int .i64 SI] := by rw [← hwq]; exact (gbb.set_ 1 _).drew
      simp only [hwq]
      clear hwq has3 gbb
      obtain ⟨t0, t1, t2, t3, t4⟩ := has4.t.c5
      obtain ⟨b0, b1, b2⟩ := gbb2.c3
      have lt := has4.t.lt
      have lb := gbb2.lt
      have fb2 := gbb2.frozen 2
      refine wp_region_still_tail 9 (by kernel_rfl) (by kernel_rfl) ?_
      simp only [List.take_succ_cons, List.take_zero, List.drop_succ_cons, List.drop_zero]
      repeat still_step
      still_call ((unhide Q7) _)
      repeat still_step
      still_call ((unhide Q8) _)
      repeat still_step
      refine wpStill_nil ?_
      change wpList _ _ _ _ _ wq.drew
      go_upto_region 11 with (fail)
      clear t0 t1 t2 t3 t4 b0 b1 b2 lt lb fb2
      obtain ⟨w40, hw40⟩ : ∃ W, (wq.setCell ⟨gb, 2, none⟩ (.int .i64 BC)).drew = W := ⟨_, rfl⟩
      have has5 : VW w w40 C a1 a2 a3 a4 n k c1 c2 c3 c4 gi gv fd fq vd vq tn mu mv I J K1 K2 := by rw [← hw40]; exact (VW.mk (has4.p.far hgc _) (has4.q.far hgs _) (has4.t.far hgx _) (has4.i.far hgi _) (has4.v.far hgv _) (has4.b.setCell hwb _) (has4.l.below ((Below.refl _ _).setCell hwb _))).drew
      have gb_40 : Blk w40 gb 65 #[.int .i64 SV, .int .i64 BT, .int .i64 BC] := by rw [← hw40]; exact (gbb2.set_ 2 _).drew
      simp only [hw40]
      clear hw40 has4 gbb2
      have gc_40 := has5.p
      have gs_40 := has5.q
      have gi_40 := has5.i
      have gv_40 := has5.v
      have HB40 := has5.b
      have L40 := has5.ly
      have lgc_40 := gc_40.lt
      have lgs_40 := gs_40.lt
      have lgi_40 := gi_40.lt
      have lgv_40 := gv_40.lt
      have lgb_40 := gb_40.lt
      clear has5
      obtain ⟨gcc0, gcc1, gcc2, gcc3, gcc4, gcc5, gcc6, gcc7, gcc8⟩ := gc_40.c9
      obtain ⟨gsc0, gsc1⟩ := gs_40.c2
      obtain ⟨gic0, gic1⟩ := gi_40.c2
      obtain ⟨gvc0, gvc1⟩ := gv_40.c2
      obtain ⟨gbc0, gbc1, gbc2⟩ := gb_40.c3
      go_wp2_with fail
      with_reducible refine ((unhide HRI) _ L40).mono ?_
      rintro e w41 ⟨rfl, hb41⟩
      have HB41 := HB40.trans (hb41.mono HB40.size)
      have gc_41 := gc_40.below hb41 gc_40.lt
      have lgc_41 := gc_41.lt
      have gs_41 := gs_40.below hb41 gs_40.lt
      have lgs_41 := gs_41.lt
      have gi_41 := gi_40.below hb41 gi_40.lt
      have lgi_41 := gi_41.lt
      have gv_41 := gv_40.below hb41 gv_40.lt
      have lgv_41 := gv_41.lt
      have gb_41 := gb_40.below hb41 gb_40.lt
      have lgb_41 := gb_41.lt
      have L41 := L40.to hb41
      clear gcc0 gcc1 gcc2 gcc3 gcc4 gcc5 gcc6 gcc7 gcc8 gsc0 gsc1 gic0 gic1 gvc0 gvc1 gbc0 gbc1 gbc2
      obtain ⟨gcc0, gcc1, gcc2, gcc3, gcc4, gcc5, gcc6, gcc7, gcc8⟩ := gc_41.c9
      obtain ⟨gsc0, gsc1⟩ := gs_41.c2
      obtain ⟨gic0, gic1⟩ := gi_41.c2
      obtain ⟨gvc0, gvc1⟩ := gv_41.c2
      obtain ⟨gbc0, gbc1, gbc2⟩ := gb_41.c3
      go_wp2_with fail
      with_reducible refine ((unhide HST) _ L41).mono ?_
      rintro e w42 ⟨rfl, hb42⟩
      have HB42 := HB41.trans (hb42.mono HB41.size)
      have gc_42 := gc_41.below hb42 gc_41.lt
      have lgc_42 := gc_42.lt
      have gs_42 := gs_41.below hb42 gs_41.lt
      have lgs_42 := gs_42.lt
      have gi_42 := gi_41.below hb42 gi_41.lt
      have lgi_42 := gi_42.lt
      have gv_42 := gv_41.below hb42 gv_41.lt
      have lgv_42 := gv_42.lt
      have gb_42 := gb_41.below hb42 gb_41.lt
      have lgb_42 := gb_42.lt
      have L42 := L41.to hb42
      clear gcc0 gcc1 gcc2 gcc3 gcc4 gcc5 gcc6 gcc7 gcc8 gsc0 gsc1 gic0 gic1 gvc0 gvc1 gbc0 gbc1 gbc2
      obtain ⟨gcc0, gcc1, gcc2, gcc3, gcc4, gcc5, gcc6, gcc7, gcc8⟩ := gc_42.c9
      obtain ⟨gsc0, gsc1⟩ := gs_42.c2
      obtain ⟨gic0, gic1⟩ := gi_42.c2
      obtain ⟨gvc0, gvc1⟩ := gv_42.c2
      obtain ⟨gbc0, gbc1, gbc2⟩ := gb_42.c3
      have lgc_42p : w.heap.size < w42.heap.size + 1 := by have := gc_42.lt; omega
      have lgs_42p : w.heap.size + 1 < w42.heap.size + 1 := by have := gs_42.lt; omega
      have lgi_42p : gi < w42.heap.size + 1 := by have := gi_42.lt; omega
      have lgv_42p : gv < w42.heap.size + 1 := by have := gv_42.lt; omega
      have lgb_42p : gb < w42.heap.size + 1 := by have := gb_42.lt; omega
      go_wp2_with fail
      with_reducible refine ((unhide HCV) _ (L42.new _)).mono ?_
      rintro e w43 ⟨rfl, hb43⟩
      have HB43 := (HB42.alloc HB42.size _).trans (hb43.mono (by simp; have := HB42.size; omega))
      have gc_43 := (gc_42.alloc _).below hb43 (gc_42.alloc _).lt
      have lgc_43 := gc_43.lt
      have gs_43 := (gs_42.alloc _).below hb43 (gs_42.alloc _).lt
      have lgs_43 := gs_43.lt
      have gi_43 := (gi_42.alloc _).below hb43 (gi_42.alloc _).lt
      have lgi_43 := gi_43.lt
      have gv_43 := (gv_42.alloc _).below hb43 (gv_42.alloc _).lt
      have lgv_43 := gv_43.lt
      have gb_43 := (gb_42.alloc _).below hb43 (gb_42.alloc _).lt
      have lgb_43 := gb_43.lt
      have gt_43 := (Blk.new w42 33 #[.int .i64 x, .int .i64 y]).below hb43 (Blk.new w42 33 #[.int .i64 x, .int .i64 y]).lt
      have lgt_43 := gt_43.lt
      have L43 := (L42.new _).to hb43
      clear gcc0 gcc1 gcc2 gcc3 gcc4 gcc5 gcc6 gcc7 gcc8 gsc0 gsc1 gic0 gic1 gvc0 gvc1 gbc0 gbc1 gbc2
      obtain ⟨gcc0, gcc1, gcc2, gcc3, gcc4, gcc5, gcc6, gcc7, gcc8⟩ := gc_43.c9
      obtain ⟨gsc0, gsc1⟩ := gs_43.c2
      obtain ⟨gic0, gic1⟩ := gi_43.c2
      obtain ⟨gvc0, gvc1⟩ := gv_43.c2
      obtain ⟨gbc0, gbc1, gbc2⟩ := gb_43.c3
      obtain ⟨gtc0, gtc1⟩ := gt_43.c2
      have lgc_43p : w.heap.size < w43.heap.size + 1 := by have := gc_43.lt; omega
      have lgs_43p : w.heap.size + 1 < w43.heap.size + 1 := by have := gs_43.lt; omega
      have lgi_43p : gi < w43.heap.size + 1 := by have := gi_43.lt; omega
      have lgv_43p : gv < w43.heap.size + 1 := by have := gv_43.lt; omega
      have lgb_43p : gb < w43.heap.size + 1 := by have := gb_43.lt; omega
      have lgt_43p : w42.heap.size < w43.heap.size + 1 := by have := gt_43.lt; omega
      go_wp2_with fail
      with_reducible refine ((unhide HS3) _).mono ?_
      rintro e w44 ⟨rfl, hb44⟩
      have HB44 := (HB43.alloc HB43.size _).trans (hb44.mono (by simp; have := HB43.size; omega))
      have gc_44 := (gc_43.alloc _).below hb44 (gc_43.alloc _).lt
      have lgc_44 := gc_44.lt
      have gs_44 := (gs_43.alloc _).below hb44 (gs_43.alloc _).lt
      have lgs_44 := gs_44.lt
      have gi_44 := (gi_43.alloc _).below hb44 (gi_43.alloc _).lt
      have lgi_44 := gi_44.lt
      have gv_44 := (gv_43.alloc _).below hb44 (gv_43.alloc _).lt
      have lgv_44 := gv_44.lt
      have gb_44 := (gb_43.alloc _).below hb44 (gb_43.alloc _).lt
      have lgb_44 := gb_44.lt
      have gt_44 := (gt_43.alloc _).below hb44 (gt_43.alloc _).lt
      have lgt_44 := gt_44.lt
      have gj_44 := (Blk.new w43 31 #[.int .i64 I2, .int .i64 J2]).below hb44 (Blk.new w43 31 #[.int .i64 I2, .int .i64 J2]).lt
      have lgj_44 := gj_44.lt
      have L44 := (L43.new _).to hb44
      go_wp2
      go_ret
      exact ⟨rfl, HB44⟩
theorem machineRises_walk (C : Cf) (A1 A2 A3 A4 : Option Addr) (n1 n2 n3 n4 c1 c2 c3 c4 : Nat) (fd fq vd vq tn mu mv : Int) (w : World) (L : Ly w w.heap.size C A1 A2 A3 A4 n1 n2 n3 n4) :
    Calls Try.prog 11 #[.agg #[.int .i64 C.r, .int .i64 C.m, .slice A1 n1 c1, .slice A2 n2 c2, .slice A3 n3 c3, .slice A4 n4 c4, .int .i64 C.p, .int .i64 C.s, .int .i64 C.f], .agg #[.int .i64 fd, .int .i64 fq], .agg #[.int .i64 vd, .int .i64 vq, .int .i64 tn, .int .i64 mu, .int .i64 mv]] w fun e w' => e = .returned (.bool true) ∧ Below w.heap.size w w' := by
  cases hl : lgB n1 n2 n3 n4 with
  | true => exact machineRises_large C A1 A2 A3 A4 n1 n2 n3 n4 c1 c2 c3 c4 fd fq vd vq tn mu mv w L hl
  | false =>
    by_cases hc : cfCode C = 0
    · obtain ⟨a1, a2, a3, a4, rfl, rfl, rfl, rfl, rfl, rfl⟩ := L.ptrs (cf_ok hc)
      exact machineRises_ok C a1 a2 a3 a4 _ _ c1 c2 c3 c4 fd fq vd vq tn mu mv w L hl hc
    · exact machineRises_bad C A1 A2 A3 A4 n1 n2 n3 n4 c1 c2 c3 c4 fd fq vd vq tn mu mv w L hl hc
end Go.Proofs.Ytmmplfokidnpnaa
