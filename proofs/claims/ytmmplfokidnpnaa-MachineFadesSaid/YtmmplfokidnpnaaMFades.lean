/- The walk of the statement MachineFades. -/
import Derived.Test.YtmmplfokidnpnaaMAwake
import Derived.Test.YtmmplfokidnpnaaMValid
import Derived.Test.YtmmplfokidnpnaaMFadeP
import Derived.Deep.RegionHeld3
import Derived.Deep.CutRange
import Derived.Lib.MinMax
namespace Go.Proofs.Ytmmplfokidnpnaa
open Go.RowKit
set_option maxRecDepth 100000 in
set_option maxHeartbeats 3200000 in
theorem machineFades_large (C : Cf) (A1 A2 A3 A4 : Option Addr) (n1 n2 n3 n4 c1 c2 c3 c4 : Nat) (fd fq ti : Int) (w : World) (L : Ly w w.heap.size C A1 A2 A3 A4 n1 n2 n3 n4) (hl : lgB n1 n2 n3 n4 = true) :
    Calls Try.prog 9 #[.agg #[.int .i64 C.r, .int .i64 C.m, .slice A1 n1 c1, .slice A2 n2 c2, .slice A3 n3 c3, .slice A4 n4 c4, .int .i64 C.p, .int .i64 C.s, .int .i64 C.f], .agg #[.int .i64 fd, .int .i64 fq], .int .u8 ti] w fun e w' => e = .returned (.bool true) ∧ Below w.heap.size w w' := by
  have HB0 := ((Below.refl w.heap.size w).alloc (Nat.le_refl _) (.cells #[.int .i64 C.r, .int .i64 C.m, .slice A1 n1 c1, .slice A2 n2 c2, .slice A3 n3 c3, .slice A4 n4 c4, .int .i64 C.p, .int .i64 C.s, .int .i64 C.f] 26)).alloc (by simp) (.cells #[.int .i64 fd, .int .i64 fq] 33)
  have L0 := ((L).new (.cells #[.int .i64 C.r, .int .i64 C.m, .slice A1 n1 c1, .slice A2 n2 c2, .slice A3 n3 c3, .slice A4 n4 c4, .int .i64 C.p, .int .i64 C.s, .int .i64 C.f] 26)).new (.cells #[.int .i64 fd, .int .i64 fq] 33)
  have gc_0 := ((Blk.new w 26 #[.int .i64 C.r, .int .i64 C.m, .slice A1 n1 c1, .slice A2 n2 c2, .slice A3 n3 c3, .slice A4 n4 c4, .int .i64 C.p, .int .i64 C.s, .int .i64 C.f]).alloc (.cells #[.int .i64 fd, .int .i64 fq] 33))
  have gs_0 := (Blk.new' (w := (w).alloc (.cells #[.int .i64 C.r, .int .i64 C.m, .slice A1 n1 c1, .slice A2 n2 c2, .slice A3 n3 c3, .slice A4 n4 c4, .int .i64 C.p, .int .i64 C.s, .int .i64 C.f] 26)) (t := 33) (cs := #[.int .i64 fd, .int .i64 fq]) (g := w.heap.size + 1) (by simp))
  have hva := fun (W : World) (h : Ly W W.heap.size C A1 A2 A3 A4 n1 n2 n3 n4) => valid_large C A1 A2 A3 A4 n1 n2 n3 n4 c1 c2 c3 c4 W h hl
  have HVA := hide hva
  clear hva hl
  go_enter Try.func9, Try.ntmps9
  go_wp2_with fail
  with_reducible refine (awake_walk _).mono ?_
  rintro e w1 ⟨rfl, hb1⟩
  have HB1 := HB0.trans (hb1.mono HB0.size)
  have gc_1 := gc_0.below hb1 gc_0.lt
  have lgc_1 := gc_1.lt
  have gs_1 := gs_0.below hb1 gs_0.lt
  have lgs_1 := gs_1.lt
  have L1 := L0.to hb1
  obtain ⟨gcc0, gcc1, gcc2, gcc3, gcc4, gcc5, gcc6, gcc7, gcc8⟩ := gc_1.c9
  obtain ⟨gsc0, gsc1⟩ := gs_1.c2
  go_wp2_with fail
  with_reducible refine ((unhide HVA) _ L1).mono ?_
  rintro e w2 ⟨rfl, hb2⟩
  have HB2 := HB1.trans (hb2.mono HB1.size)
  have gc_2 := gc_1.below hb2 gc_1.lt
  have lgc_2 := gc_2.lt
  have gs_2 := gs_1.below hb2 gs_1.lt
  have lgs_2 := gs_2.lt
  have L2 := L1.to hb2
  clear gcc0 gcc1 gcc2 gcc3 gcc4 gcc5 gcc6 gcc7 gcc8 gsc0 gsc1
  obtain ⟨gcc0, gcc1, gcc2, gcc3, gcc4, gcc5, gcc6, gcc7, gcc8⟩ := gc_2.c9
  obtain ⟨gsc0, gsc1⟩ := gs_2.c2
  go_wp2_with fail
  with_reducible refine (awake_walk _).mono ?_
  rintro e w3 ⟨rfl, hb3⟩
  have HB3 := HB2.trans (hb3.mono HB2.size)
  have gc_3 := gc_2.below hb3 gc_2.lt
  have lgc_3 := gc_3.lt
  have gs_3 := gs_2.below hb3 gs_2.lt
  have lgs_3 := gs_3.lt
  have L3 := L2.to hb3
  go_wp2
  go_ret
  exact ⟨rfl, HB3⟩
set_option maxRecDepth 100000 in
set_option maxHeartbeats 3200000 in
theorem machineFades_bad (C : Cf) (A1 A2 A3 A4 : Option Addr) (n1 n2 n3 n4 c1 c2 c3 c4 : Nat) (fd fq ti : Int) (w : World) (L : Ly w w.heap.size C A1 A2 A3 A4 n1 n2 n3 n4) (hl : lgB n1 n2 n3 n4 = false) (hc : cfCode C ≠ 0) :
    Calls Try.prog 9 #[.agg #[.int .i64 C.r, .int .i64 C.m, .slice A1 n1 c1, .slice A2 n2 c2, .slice A3 n3 c3, .slice A4 n4 c4, .int .i64 C.p, .int .i64 C.s, .int .i64 C.f], .agg #[.int .i64 fd, .int .i64 fq], .int .u8 ti] w fun e w' => e = .returned (.bool true) ∧ Below w.heap.size w w' := by
  have HB0 := ((Below.refl w.heap.size w).alloc (Nat.le_refl _) (.cells #[.int .i64 C.r, .int .i64 C.m, .slice A1 n1 c1, .slice A2 n2 c2, .slice A3 n3 c3, .slice A4 n4 c4, .int .i64 C.p, .int .i64 C.s, .int .i64 C.f] 26)).alloc (by simp) (.cells #[.int .i64 fd, .int .i64 fq] 33)
  have L0 := ((L).new (.cells #[.int .i64 C.r, .int .i64 C.m, .slice A1 n1 c1, .slice A2 n2 c2, .slice A3 n3 c3, .slice A4 n4 c4, .int .i64 C.p, .int .i64 C.s, .int .i64 C.f] 26)).new (.cells #[.int .i64 fd, .int .i64 fq] 33)
  have gc_0 := ((Blk.new w 26 #[.int .i64 C.r, .int .i64 C.m, .slice A1 n1 c1, .slice A2 n2 c2, .slice A3 n3 c3, .slice A4 n4 c4, .int .i64 C.p, .int .i64 C.s, .int .i64 C.f]).alloc (.cells #[.int .i64 fd, .int .i64 fq] 33))
  have gs_0 := (Blk.new' (w := (w).alloc (.cells #[.int .i64 C.r, .int .i64 C.m, .slice A1 n1 c1, .slice A2 n2 c2, .slice A3 n3 c3, .slice A4 n4 c4, .int .i64 C.p, .int .i64 C.s, .int .i64 C.f] 26)) (t := 33) (cs := #[.int .i64 fd, .int .i64 fq]) (g := w.heap.size + 1) (by simp))
  have hva := fun (W : World) (h : Ly W W.heap.size C A1 A2 A3 A4 n1 n2 n3 n4) => valid_bad C A1 A2 A3 A4 n1 n2 n3 n4 c1 c2 c3 c4 W h hl hc
  have HVA := hide hva
  clear hva hl hc
  go_enter Try.func9, Try.ntmps9
  go_wp2_with fail
  with_reducible refine (awake_walk _).mono ?_
  rintro e w1 ⟨rfl, hb1⟩
  have HB1 := HB0.trans (hb1.mono HB0.size)
  have gc_1 := gc_0.below hb1 gc_0.lt
  have lgc_1 := gc_1.lt
  have gs_1 := gs_0.below hb1 gs_0.lt
  have lgs_1 := gs_1.lt
  have L1 := L0.to hb1
  obtain ⟨gcc0, gcc1, gcc2, gcc3, gcc4, gcc5, gcc6, gcc7, gcc8⟩ := gc_1.c9
  obtain ⟨gsc0, gsc1⟩ := gs_1.c2
  go_wp2_with fail
  with_reducible refine ((unhide HVA) _ L1).mono ?_
  rintro e w2 ⟨rfl, hb2⟩
  have HB2 := HB1.trans (hb2.mono HB1.size)
  have gc_2 := gc_1.below hb2 gc_1.lt
  have lgc_2 := gc_2.lt
  have gs_2 := gs_1.below hb2 gs_1.lt
  have lgs_2 := gs_2.lt
  have L2 := L1.to hb2
  clear gcc0 gcc1 gcc2 gcc3 gcc4 gcc5 gcc6 gcc7 gcc8 gsc0 gsc1
  obtain ⟨gcc0, gcc1, gcc2, gcc3, gcc4, gcc5, gcc6, gcc7, gcc8⟩ := gc_2.c9
  obtain ⟨gsc0, gsc1⟩ := gs_2.c2
  go_wp2_with fail
  with_reducible refine (awake_walk _).mono ?_
  rintro e w3 ⟨rfl, hb3⟩
  have HB3 := HB2.trans (hb3.mono HB2.size)
  have gc_3 := gc_2.below hb3 gc_2.lt
  have lgc_3 := gc_3.lt
  have gs_3 := gs_2.below hb3 gs_2.lt
  have lgs_3 := gs_3.lt
  have L3 := L2.to hb3
  go_wp2
  go_ret
  exact ⟨rfl, HB3⟩
/-- A configuration and a state in memory. -/
structure GU (w0 w : World) (C : Cf) (a1 a2 a3 a4 : Addr) (n k c1 c2 c3 c4 : Nat) (fd fq : Int) : Prop where
  p : Blk w (w0.heap.size) 26 #[.int .i64 C.r, .int .i64 C.m, .slice (some a1) n c1, .slice (some a2) n c2, .slice (some a3) k c3, .slice (some a4) k c4, .int .i64 C.p, .int .i64 C.s, .int .i64 C.f]
  q : Blk w (w0.heap.size + 1) 33 #[.int .i64 fd, .int .i64 fq]
  b : Below w0.heap.size w0 w
  l : Ly w w0.heap.size C (some a1) (some a2) (some a3) (some a4) n n k k
section
variable {w0 w w' : World} {C : Cf} {a1 a2 a3 a4 : Addr} {n k c1 c2 c3 c4 : Nat} {fd fq : Int}
theorem GU.all (h : GU w0 w C a1 a2 a3 a4 n k c1 c2 c3 c4 fd fq) : GU w0 w C a1 a2 a3 a4 n k c1 c2 c3 c4 fd fq ∧ w.cell? ⟨w0.heap.size, 0, none⟩ = some (.int .i64 C.r) ∧ w.cell? ⟨w0.heap.size, 1, none⟩ = some (.int .i64 C.m) ∧ w.cell? ⟨w0.heap.size, 2, none⟩ = some (.slice (some a1) n c1) ∧ w.cell? ⟨w0.heap.size, 3, none⟩ = some (.slice (some a2) n c2) ∧ w.cell? ⟨w0.heap.size, 4, none⟩ = some (.slice (some a3) k c3) ∧ w.cell? ⟨w0.heap.size, 5, none⟩ = some (.slice (some a4) k c4) ∧ w.cell? ⟨w0.heap.size, 6, none⟩ = some (.int .i64 C.p) ∧ w.cell? ⟨w0.heap.size, 7, none⟩ = some (.int .i64 C.s) ∧ w.cell? ⟨w0.heap.size, 8, none⟩ = some (.int .i64 C.f) ∧ w.cell? ⟨w0.heap.size + 1, 0, none⟩ = some (.int .i64 fd) ∧ w.cell? ⟨w0.heap.size + 1, 1, none⟩ = some (.int .i64 fq) := ⟨h, h.p.cell 0, h.p.cell 1, h.p.cell 2, h.p.cell 3, h.p.cell 4, h.p.cell 5, h.p.cell 6, h.p.cell 7, h.p.cell 8, h.q.cell 0, h.q.cell 1⟩
theorem GU.drew (h : GU w0 w C a1 a2 a3 a4 n k c1 c2 c3 c4 fd fq) : GU w0 w.drew C a1 a2 a3 a4 n k c1 c2 c3 c4 fd fq := ⟨h.p.drew, h.q.drew, h.b.drew, h.l.drew⟩
theorem GU.one {Q : Prop} (h : GU w0 w C a1 a2 a3 a4 n k c1 c2 c3 c4 fd fq ∧ Q) : GU w0 w C a1 a2 a3 a4 n k c1 c2 c3 c4 fd fq := h.1
theorem GU.below (hb : Below w.heap.size w w') (h : GU w0 w C a1 a2 a3 a4 n k c1 c2 c3 c4 fd fq) : GU w0 w' C a1 a2 a3 a4 n k c1 c2 c3 c4 fd fq := ⟨h.p.below hb h.p.lt, h.q.below hb h.q.lt, h.b.trans (hb.mono h.b.size), h.l.below (hb.mono h.b.size)⟩
theorem GU.ly (h : GU w0 w C a1 a2 a3 a4 n k c1 c2 c3 c4 fd fq) : Ly w w.heap.size C (some a1) (some a2) (some a3) (some a4) n n k k := h.l.more h.b.size
end
/-- How many ticks are enough; -1 where nothing is promised. -/
def needI (C : Cf) (fd fq : Int) : Int := if 0 < C.f then (lenC C fd fq + C.f - 1).tdiv C.f else -1
/-- What is known behind k ticks. -/
def FadI (C : Cf) (L0 : Int) (k : Nat) (d q : Int) : Prop := lenC C d q = 0 ∨ lenC C d q ≤ L0 - k * C.f
theorem fad_next {C : Cf} (ok : CfOk C) {L0 : Int} {k : Nat} {d q : Int} (h : FadI C L0 k d q) : FadI C L0 (k + 1) (ofD C d q) (ofQ C d q) := by
  have bl := lenC_bd ok (ofD C d q) (ofQ C d q)
  have bf := ok.f
  have e : (((k + 1 : Nat)) : Int) * C.f = k * C.f + C.f := by push_cast; grind
  unfold FadI at *
  rcases fade_len ok d q with h1 | h1
  · exact .inl h1
  · rcases h with h | h
    · left; omega
    · right; omega
theorem fad_end {C : Cf} (ok : CfOk C) {fd fq : Int} {k : Nat} {d q : Int} (h : FadI C (lenC C fd fq) k d q) (hf : 0 < C.f) (hn : needI C fd fq ≤ k) : curD C d = 0 ∧ curQ C q = 0 := by
  unfold needI at hn
  rw [if_pos hf] at hn
  have := need_mul hf hn
  refine cur_zero ok ?_
  unfold FadI at h
  omega
theorem neq_dq (w : World) : (binOp .neq 31 (.agg #[.int .i64 0, .int .i64 0]) (.agg #[.int .i64 0, .int .i64 0])).run Try.prog w = .ok (.bool false) w := by kernel_rfl
set_option maxRecDepth 100000 in
set_option maxHeartbeats 3200000 in
theorem machineFades_ok (C : Cf) (a1 a2 a3 a4 : Addr) (n k c1 c2 c3 c4 : Nat) (fd fq ti : Int) (ht : 0 ≤ ti ∧ ti ≤ 255) (w : World) (L : Ly w w.heap.size C (some a1) (some a2) (some a3) (some a4) n n k k) (hl : lgB n n k k = false) (hc : cfCode C = 0) :
    Calls Try.prog 9 #[.agg #[.int .i64 C.r, .int .i64 C.m, .slice (some a1) n c1, .slice (some a2) n c2, .slice (some a3) k c3, .slice (some a4) k c4, .int .i64 C.p, .int .i64 C.s, .int .i64 C.f], .agg #[.int .i64 fd, .int .i64 fq], .int .u8 ti] w fun e w' => e = .returned (.bool true) ∧ Below w.heap.size w w' := by
  have HB0 := ((Below.refl w.heap.size w).alloc (Nat.le_refl _) (.cells #[.int .i64 C.r, .int .i64 C.m, .slice (some a1) n c1, .slice (some a2) n c2, .slice (some a3) k c3, .slice (some a4) k c4, .int .i64 C.p, .int .i64 C.s, .int .i64 C.f] 26)).alloc (by simp) (.cells #[.int .i64 fd, .int .i64 fq] 33)
  have L0 := ((L).new (.cells #[.int .i64 C.r, .int .i64 C.m, .slice (some a1) n c1, .slice (some a2) n c2, .slice (some a3) k c3, .slice (some a4) k c4, .int .i64 C.p, .int .i64 C.s, .int .i64 C.f] 26)).new (.cells #[.int .i64 fd, .int .i64 fq] 33)
  have gc_0 := ((Blk.new w 26 #[.int .i64 C.r, .int .i64 C.m, .slice (some a1) n c1, .slice (some a2) n c2, .slice (some a3) k c3, .slice (some a4) k c4, .int .i64 C.p, .int .i64 C.s, .int .i64 C.f]).alloc (.cells #[.int .i64 fd, .int .i64 fq] 33))
  have gs_0 := (Blk.new' (w := (w).alloc (.cells #[.int .i64 C.r, .int .i64 C.m, .slice (some a1) n c1, .slice (some a2) n c2, .slice (some a3) k c3, .slice (some a4) k c4, .int .i64 C.p, .int .i64 C.s, .int .i64 C.f] 26)) (t := 33) (cs := #[.int .i64 fd, .int .i64 fq]) (g := w.heap.size + 1) (by simp))
  have ok := cf_ok hc
  have bf := ok.f
  have bl := lenC_bd ok fd fq
  have hva := fun (W : World) (h : Ly W W.heap.size C (some a1) (some a2) (some a3) (some a4) n n k k) => valid_ok C (some a1) (some a2) (some a3) (some a4) n n k k c1 c2 c3 c4 W h hl hc
  have hlg := fun (W : World) (h : Ly W W.heap.size C (some a1) (some a2) (some a3) (some a4) n n k k) => lengthR C a1 a2 a3 a4 n k c1 c2 c3 c4 fd fq W h ok
  have HVA := hide hva
  have HLG := hide hlg
  clear hva hlg hl
  have hcu := fun (d q : Int) (W : World) (h : Ly W W.heap.size C (some a1) (some a2) (some a3) (some a4) n n k k) => currentsM C a1 a2 a3 a4 n k c1 c2 c3 c4 d q W h hc
  have hof := fun (d q : Int) (W : World) (h : Ly W W.heap.size C (some a1) (some a2) (some a3) (some a4) n n k k) => offTM C a1 a2 a3 a4 n k c1 c2 c3 c4 d q W h hc
  have HCU := hide hcu
  have HOF := hide hof
  have OK := hide ok
  obtain ⟨nd, hnd⟩ : ∃ x, needI C fd fq = x := ⟨_, rfl⟩
  have hndb : nd = -1 ∨ (0 < C.f ∧ 0 ≤ nd) := by
    by_cases h : 0 < C.f
    · refine .inr ⟨h, ?_⟩
      rw [← hnd]
      unfold needI
      rw [if_pos h]
      exact Int.tdiv_nonneg (by omega) (by omega)
    · left; rw [← hnd]; unfold needI; rw [if_neg h]
  have hFad := fun (k : Nat) (d q : Int) (h : FadI C (lenC C fd fq) k d q) (hf : 0 < C.f) (hn : nd ≤ k) => fad_end ok (fd := fd) (fq := fq) h hf (by rw [hnd]; exact hn)
  have HFE := hide hFad
  have F0 : Hid (FadI C (lenC C fd fq) 0 fd fq) := hide (.inr (by omega))
  clear hcu hof ok hc hFad
  go_enter Try.func9, Try.ntmps9
  go_wp2_with fail
  with_reducible refine (awake_walk _).mono ?_
  rintro e w1 ⟨rfl, hb1⟩
  have HB1 := HB0.trans (hb1.mono HB0.size)
  have gc_1 := gc_0.below hb1 gc_0.lt
  have lgc_1 := gc_1.lt
  have gs_1 := gs_0.below hb1 gs_0.lt
  have lgs_1 := gs_1.lt
  have L1 := L0.to hb1
  obtain ⟨gcc0, gcc1, gcc2, gcc3, gcc4, gcc5, gcc6, gcc7, gcc8⟩ := gc_1.c9
  obtain ⟨gsc0, gsc1⟩ := gs_1.c2
  go_wp2_with fail
  with_reducible refine ((unhide HVA) _ L1).mono ?_
  rintro e w2 ⟨rfl, hb2⟩
  have HB2 := HB1.trans (hb2.mono HB1.size)
  have gc_2 := gc_1.below hb2 gc_1.lt
  have lgc_2 := gc_2.lt
  have gs_2 := gs_1.below hb2 gs_1.lt
  have lgs_2 := gs_2.lt
  have L2 := L1.to hb2
  clear gcc0 gcc1 gcc2 gcc3 gcc4 gcc5 gcc6 gcc7 gcc8 gsc0 gsc1
  obtain ⟨gcc0, gcc1, gcc2, gcc3, gcc4, gcc5, gcc6, gcc7, gcc8⟩ := gc_2.c9
  obtain ⟨gsc0, gsc1⟩ := gs_2.c2
  have has : GU w w2 C a1 a2 a3 a4 n k c1 c2 c3 c4 fd fq := ⟨gc_2, gs_2, HB2, L.below HB2⟩
  go_upto_if 25 with (fail)
  go_cut [7] from 25 to 35 (fun u7 wx => u7 = .int .i64 nd ∧ GU w wx C a1 a2 a3 a4 n k c1 c2 c3 c4 fd fq)
  case first =>
    by_cases hf : 0 < C.f
    · have hnv : nd = (lenC C fd fq + C.f - 1).tdiv C.f := by rw [← hnd]; unfold needI; rw [if_pos hf]
      obtain ⟨M, hM⟩ : ∃ x, lenC C fd fq = x := ⟨_, rfl⟩
      have HLG2 := unhide HLG
      simp only [hM] at HLG2
      have HLG3 := hide HLG2
      clear HLG2
      rw [hM] at hnv bl
      have t1 := shrink (x := M + C.f - 1) (a := 1) (b := C.f) (by omega) (by omega) hf
      rw [Int.mul_one] at t1
      rw [← hnv] at t1
      have bn : 0 ≤ nd ∧ nd ≤ 4294967296 := by omega
      have hq : (M + C.f - 1).tdiv C.f = nd := hnv.symm
      have e1 : IntKind.i64.wrap (M + C.f) = M + C.f := IntWalk.i64_in _ (by omega)
      have e2 : IntKind.i64.wrap (M + C.f - 1) = M + C.f - 1 := IntWalk.i64_in _ (by omega)
      have e3 : IntKind.i64.wrap nd = nd := IntWalk.i64_in _ (by omega)
      have e4 : wrap64 nd = nd := by unfold wrap64; omega
      have n1 : ¬ C.f = 0 := by omega
      have n2 : ¬ C.f = -1 := by omega
      clear hnv t1 hM hnd
      go_wp2
      go_region_held3 (fun w' => GU w w' C a1 a2 a3 a4 n k c1 c2 c3 c4 fd fq ∧ w'.cell? ⟨w.heap.size, 0, none⟩ = some (.int .i64 C.r) ∧ w'.cell? ⟨w.heap.size, 1, none⟩ = some (.int .i64 C.m) ∧ w'.cell? ⟨w.heap.size, 2, none⟩ = some (.slice (some a1) n c1) ∧ w'.cell? ⟨w.heap.size, 3, none⟩ = some (.slice (some a2) n c2) ∧ w'.cell? ⟨w.heap.size, 4, none⟩ = some (.slice (some a3) k c3) ∧ w'.cell? ⟨w.heap.size, 5, none⟩ = some (.slice (some a4) k c4) ∧ w'.cell? ⟨w.heap.size, 6, none⟩ = some (.int .i64 C.p) ∧ w'.cell? ⟨w.heap.size, 7, none⟩ = some (.int .i64 C.s) ∧ w'.cell? ⟨w.heap.size, 8, none⟩ = some (.int .i64 C.f) ∧ w'.cell? ⟨w.heap.size + 1, 0, none⟩ = some (.int .i64 fd) ∧ w'.cell? ⟨w.heap.size + 1, 1, none⟩ = some (.int .i64 fq))
        (first | (refine GU.all ?_; repeat (first | with_reducible exact has | with_reducible exact hasA | with_reducible refine GU.drew ?_)))
        (first | (go_at_call 32; (with_reducible refine ((unhide HLG3) _ (GU.ly (GU.one ‹GU w _ _ _ _ _ _ _ _ _ _ _ _ _ _ ∧ _›))).mono ?_); rintro e wA ⟨rfl, hbA⟩; have hasA := GU.below hbA (GU.one ‹GU w _ _ _ _ _ _ _ _ _ _ _ _ _ _ ∧ _›)))
      all_goals
        go_wp2_with fail
        go_meet
        case rel => exact ⟨rfl, hasA⟩
    · obtain rfl : nd = -1 := by omega
      go_wp2_with fail
      go_meet
      case rel => exact ⟨rfl, has⟩
  case rest =>
    obtain ⟨rfl, hasC⟩ := hcut
    go_wp2
    go_loopw [8] (fun u wr => ∃ (kk : Nat) (d q : Int), (kk : Int) ≤ ti ∧ u = .int .i64 kk ∧ Hid (FadI C (lenC C fd fq) kk d q) ∧ GU w wr C a1 a2 a3 a4 n k c1 c2 c3 c4 d q) (fun u _ => 256 - (intOf u).toNat)
    case atStart => exact ⟨0, fd, fq, by omega, rfl, F0, hasC⟩
    case round =>
    obtain ⟨kk, d, q, hk, rfl, hF, has2⟩ := hrel
    obtain ⟨w20, rfl⟩ : ∃ W, W = wr := ⟨_, rfl⟩
    by_cases hlt : (kk : Int) < ti
    case neg =>
      go_wp2
      go_ret
      exact ⟨rfl, has2.b⟩
    have fD := fadeD (unhide OK) d q
    have fQ := fadeQ (unhide OK) d q
    have pD := mul_nn fD.1 fD.2
    have pQ := mul_nn fQ.1 fQ.2
    have bI := curD_bd (unhide OK) d
    have bJ := curQ_bd (unhide OK) q
    have HN := hide (fad_next (unhide OK) hF.out)
    have hE := fun (hf : 0 < C.f) (hn : nd ≤ ((kk + 1 : Nat) : Int)) => (unhide HFE) (kk + 1) _ _ (unhide HN) hf hn
    have HC1 := hide (fun (W : World) (h : Ly W W.heap.size C (some a1) (some a2) (some a3) (some a4) n n k k) => (unhide HCU) d q W h)
    have HC2 := hide (fun (W : World) (h : Ly W W.heap.size C (some a1) (some a2) (some a3) (some a4) n n k k) => (unhide HCU) (ofD C d q) (ofQ C d q) W h)
    have HO1 := hide (fun (W : World) (h : Ly W W.heap.size C (some a1) (some a2) (some a3) (some a4) n n k k) => (unhide HOF) d q W h)
    obtain ⟨x, hx⟩ : ∃ x, ofD C d q = x := ⟨_, rfl⟩
    obtain ⟨y, hy⟩ : ∃ x, ofQ C d q = x := ⟨_, rfl⟩
    rw [hx, hy] at HN HC2
    simp only [hx, hy] at HO1 hE
    rw [hx] at fD pD
    rw [hy] at fQ pQ
    obtain ⟨I, hI⟩ : ∃ x, curD C d = x := ⟨_, rfl⟩
    obtain ⟨J, hJ⟩ : ∃ x, curQ C q = x := ⟨_, rfl⟩
    obtain ⟨I2, hI2⟩ : ∃ z, curD C x = z := ⟨_, rfl⟩
    obtain ⟨J2, hJ2⟩ : ∃ z, curQ C y = z := ⟨_, rfl⟩
    rw [hI, hI2] at fD pD
    rw [hJ, hJ2] at fQ pQ
    rw [hI] at bI
    rw [hJ] at bJ
    simp only [hI, hJ] at HC1
    simp only [hI2, hJ2] at HC2 hE
    have b2 : -1048576 ≤ I2 ∧ I2 ≤ 1048576 := by omega
    have b3 : -1048576 ≤ J2 ∧ J2 ≤ 1048576 := by omega
    have m1 := mul_bd (a := I2) (b := I) (A := 1048576) (B := 1048576) b2 bI
    have m2 := mul_bd (a := J2) (b := J) (A := 1048576) (B := 1048576) b3 bJ
    have e1 : IntKind.i64.wrap (I2 * I) = I2 * I := IntWalk.i64_in _ (by omega)
    have e2 : IntKind.i64.wrap (J2 * J) = J2 * J := IntWalk.i64_in _ (by omega)
    have hz : nd = -1 ∨ ((kk : Int) + 1 < nd) ∨ (0 ≤ nd ∧ nd ≤ (kk : Int) + 1 ∧ I2 = 0 ∧ J2 = 0) := by
      rcases hndb with h | ⟨h, h3⟩
      · exact .inl h
      · by_cases h2 : (kk : Int) + 1 < nd
        · exact .inr (.inl h2)
        · exact .inr (.inr ⟨h3, by omega, hE h (by omega)⟩)
    have HB20 := has2.b
    have gc_20 := has2.p
    have gs_20 := has2.q
    have lgc_20 := gc_20.lt
    have lgs_20 := gs_20.lt
    have L20 := has2.ly
    clear hx hy hI hJ hI2 hJ2 has2 hE hasC m1 m2
    obtain ⟨gcc0, gcc1, gcc2, gcc3, gcc4, gcc5, gcc6, gcc7, gcc8⟩ := gc_20.c9
    obtain ⟨gsc0, gsc1⟩ := gs_20.c2
    go_wp2_with fail
    with_reducible refine ((unhide HC1) _ L20).mono ?_
    rintro e w21 ⟨rfl, hb21⟩
    have HB21 := HB20.trans (hb21.mono HB20.size)
    have gc_21 := gc_20.below hb21 gc_20.lt
    have lgc_21 := gc_21.lt
    have gs_21 := gs_20.below hb21 gs_20.lt
    have lgs_21 := gs_21.lt
    have L21 := L20.to hb21
    clear gcc0 gcc1 gcc2 gcc3 gcc4 gcc5 gcc6 gcc7 gcc8 gsc0 gsc1
    obtain ⟨gcc0, gcc1, gcc2, gcc3, gcc4, gcc5, gcc6, gcc7, gcc8⟩ := gc_21.c9
    obtain ⟨gsc0, gsc1⟩ := gs_21.c2
    have lgc_21p : w.heap.size < w21.heap.size + 1 := by have := gc_21.lt; omega
    have lgs_21p : w.heap.size + 1 < w21.heap.size + 1 := by have := gs_21.lt; omega
    go_wp2_with fail
    with_reducible refine ((unhide HO1) _ (L21.new _)).mono ?_
    rintro e w22 ⟨rfl, hb22⟩
    have HB22 := (HB21.alloc HB21.size _).trans (hb22.mono (by simp; have := HB21.size; omega))
    have gc_22 := (gc_21.alloc _).below hb22 (gc_21.alloc _).lt
    have lgc_22 := gc_22.lt
    have gs_22 := (gs_21.alloc _).below hb22 (gs_21.alloc _).lt
    have lgs_22 := gs_22.lt
    have gi_22 := (Blk.new w21 31 #[.int .i64 I, .int .i64 J]).below hb22 (Blk.new w21 31 #[.int .i64 I, .int .i64 J]).lt
    have lgi_22 := gi_22.lt
    have L22 := (L21.new _).to hb22
    clear gcc0 gcc1 gcc2 gcc3 gcc4 gcc5 gcc6 gcc7 gcc8 gsc0 gsc1
    obtain ⟨gcc0, gcc1, gcc2, gcc3, gcc4, gcc5, gcc6, gcc7, gcc8⟩ := gc_22.c9
    obtain ⟨gsc0, gsc1⟩ := gs_22.c2
    obtain ⟨gic0, gic1⟩ := gi_22.c2
    have lgc_22p : w.heap.size < w22.heap.size + 1 := by have := gc_22.lt; omega
    have lgs_22p : w.heap.size + 1 < w22.heap.size + 1 := by have := gs_22.lt; omega
    have lgi_22p : w21.heap.size < w22.heap.size + 1 := by have := gi_22.lt; omega
    go_wp2_with fail
    with_reducible refine ((unhide HC2) _ (L22.new _)).mono ?_
    rintro e w23 ⟨rfl, hb23⟩
    have HB23 := (HB22.alloc HB22.size _).trans (hb23.mono (by simp; have := HB22.size; omega))
    have gc_23 := (gc_22.alloc _).below hb23 (gc_22.alloc _).lt
    have lgc_23 := gc_23.lt
    have gs_23 := (gs_22.alloc _).below hb23 (gs_22.alloc _).lt
    have lgs_23 := gs_23.lt
    have gi_23 := (gi_22.alloc _).below hb23 (gi_22.alloc _).lt
    have lgi_23 := gi_23.lt
    have gt_23 := (Blk.new w22 33 #[.int .i64 x, .int .i64 y]).below hb23 (Blk.new w22 33 #[.int .i64 x, .int .i64 y]).lt
    have lgt_23 := gt_23.lt
    have L23 := (L22.new _).to hb23
    clear gcc0 gcc1 gcc2 gcc3 gcc4 gcc5 gcc6 gcc7 gcc8 gsc0 gsc1 gic0 gic1
    obtain ⟨gcc0, gcc1, gcc2, gcc3, gcc4, gcc5, gcc6, gcc7, gcc8⟩ := gc_23.c9
    obtain ⟨gsc0, gsc1⟩ := gs_23.c2
    obtain ⟨gic0, gic1⟩ := gi_23.c2
    obtain ⟨gtc0, gtc1⟩ := gt_23.c2
    have lgc_23p : w.heap.size < w23.heap.size + 1 := by have := gc_23.lt; omega
    have lgs_23p : w.heap.size + 1 < w23.heap.size + 1 := by have := gs_23.lt; omega
    have lgi_23p : w21.heap.size < w23.heap.size + 1 := by have := gi_23.lt; omega
    have lgt_23p : w22.heap.size < w23.heap.size + 1 := by have := gt_23.lt; omega
    have fs0 := gs_23.frozen 0
    have fs1 := gs_23.frozen 1
    have hnq := neq_dq
    have hmD : max I2 (-I2) ≤ max I (-I) := by omega
    have hmQ : max J2 (-J2) ≤ max J (-J) := by omega
    have hnD : ¬ max I (-I) < max I2 (-I2) := by omega
    have hnQ : ¬ max J (-J) < max J2 (-J2) := by omega
    clear fD fQ
    have hfin := fun (nw : World) (h : nw = ((w23.setCell ⟨w.heap.size + 1, 0, none⟩ (.int .i64 x)).setCell ⟨w.heap.size + 1, 1, none⟩ (.int .i64 y)).alloc (.cells #[.int .i64 I2, .int .i64 J2] 31)) => (show GU w nw C a1 a2 a3 a4 n k c1 c2 c3 c4 x y from by
      subst h
      have HF := ((HB23.setCell (p := ⟨w.heap.size + 1, 0, none⟩) (by simp) (.int .i64 x)).setCell (p := ⟨w.heap.size + 1, 1, none⟩) (by simp) (.int .i64 y)).alloc (by simp; exact HB23.size) (.cells #[.int .i64 I2, .int .i64 J2] 31)
      exact ⟨((gc_23.far (by simp) _).far (by simp) _).alloc _, ((gs_23.set_ 0 _).set_ 1 _).alloc _, HF, L.below HF⟩)
    have HFIN := hide hfin
    clear hfin
    rcases hz with rfl | hz | ⟨z1, z2, rfl, rfl⟩
    all_goals
      go_wp2
      go_roundw
      case rel => exact ⟨kk + 1, x, y, by omega, by go_num, HN, (unhide HFIN) _ rfl⟩
      case measure => simp [intOf]; omega
theorem machineFades_walk (C : Cf) (A1 A2 A3 A4 : Option Addr) (n1 n2 n3 n4 c1 c2 c3 c4 : Nat) (fd fq ti : Int) (ht : 0 ≤ ti ∧ ti ≤ 255) (w : World) (L : Ly w w.heap.size C A1 A2 A3 A4 n1 n2 n3 n4) :
    Calls Try.prog 9 #[.agg #[.int .i64 C.r, .int .i64 C.m, .slice A1 n1 c1, .slice A2 n2 c2, .slice A3 n3 c3, .slice A4 n4 c4, .int .i64 C.p, .int .i64 C.s, .int .i64 C.f], .agg #[.int .i64 fd, .int .i64 fq], .int .u8 ti] w fun e w' => e = .returned (.bool true) ∧ Below w.heap.size w w' := by
  cases hl : lgB n1 n2 n3 n4 with
  | true => exact machineFades_large C A1 A2 A3 A4 n1 n2 n3 n4 c1 c2 c3 c4 fd fq ti w L hl
  | false =>
    by_cases hc : cfCode C = 0
    · obtain ⟨a1, a2, a3, a4, rfl, rfl, rfl, rfl, rfl, rfl⟩ := L.ptrs (cf_ok hc)
      exact machineFades_ok C a1 a2 a3 a4 _ _ c1 c2 c3 c4 fd fq ti ht w L hl hc
    · exact machineFades_bad C A1 A2 A3 A4 n1 n2 n3 n4 c1 c2 c3 c4 fd fq ti w L hl hc
end Go.Proofs.Ytmmplfokidnpnaa
