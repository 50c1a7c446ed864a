/- The walks of Torque, and of the reference's. -/
import Derived.Test.YtmmplfokidnpnaaMCur
namespace Go.Proofs.Ytmmplfokidnpnaa
open Go.RowKit
/-- The torque of a flux. -/
def torq (C : Cf) (d q : Int) : Int := clipI ((3 * C.p * ((C.m + devD C d) * curQ C q - devQ C q * curD C d)).tdiv (2 * C.s)) (-16777216) 16777216
set_option maxRecDepth 100000 in
set_option maxHeartbeats 1600000 in
theorem torqueM_bad (C : Cf) (A1 A2 A3 A4 : Option Addr) (n1 n2 n3 n4 c1 c2 c3 c4 : Nat) (fd fq : Int) (w : World) (L : Ly w w.heap.size C A1 A2 A3 A4 n1 n2 n3 n4) (hc : cfCode C ≠ 0) :
    Calls Try.prog 19 #[.agg #[.int .i64 C.r, .int .i64 C.m, .slice A1 n1 c1, .slice A2 n2 c2, .slice A3 n3 c3, .slice A4 n4 c4, .int .i64 C.p, .int .i64 C.s, .int .i64 C.f], .agg #[.int .i64 fd, .int .i64 fq]] w fun e w' => e = .returned (.tuple #[.int .i64 0, errV (cfCode C)]) ∧ Below w.heap.size w w' := by
  have hb0 := ((Below.refl w.heap.size w).alloc (Nat.le_refl _) (.cells #[.int .i64 C.r, .int .i64 C.m, .slice A1 n1 c1, .slice A2 n2 c2, .slice A3 n3 c3, .slice A4 n4 c4, .int .i64 C.p, .int .i64 C.s, .int .i64 C.f] 26)).alloc (by simp) (.cells #[.int .i64 fd, .int .i64 fq] 33)
  have L0 := (L.new (.cells #[.int .i64 C.r, .int .i64 C.m, .slice A1 n1 c1, .slice A2 n2 c2, .slice A3 n3 c3, .slice A4 n4 c4, .int .i64 C.p, .int .i64 C.s, .int .i64 C.f] 26)).new (.cells #[.int .i64 fd, .int .i64 fq] 33)
  have hcu := fun (W : World) (h : Ly W W.heap.size C A1 A2 A3 A4 n1 n2 n3 n4) => currentsM_bad C A1 A2 A3 A4 n1 n2 n3 n4 c1 c2 c3 c4 fd fq W h hc
  obtain ⟨cd, hcd⟩ : ∃ x, cfCode C = x := ⟨_, rfl⟩
  rw [hcd] at hc ⊢
  simp only [hcd, errV_ne hc] at hcu
  rw [errV_ne hc]
  have HCU := hide hcu
  clear hcu hcd
  go_enter Try.func19, Try.ntmps19
  go_wp2_with fail
  refine ((unhide HCU) _ L0).mono ?_
  rintro e w1 ⟨rfl, hb1⟩
  have HB1 := hb0.trans (hb1.mono hb0.size)
  go_wp2
  go_ret2
  exact ⟨rfl, HB1.alloc HB1.size _⟩
set_option maxRecDepth 100000 in
set_option maxHeartbeats 1600000 in
theorem torqueM (C : Cf) (a1 a2 a3 a4 : Addr) (n k c1 c2 c3 c4 : Nat) (fd fq : Int) (w : World) (L : Ly w w.heap.size C (some a1) (some a2) (some a3) (some a4) n n k k) (hc : cfCode C = 0) :
    Calls Try.prog 19 #[.agg #[.int .i64 C.r, .int .i64 C.m, .slice (some a1) n c1, .slice (some a2) n c2, .slice (some a3) k c3, .slice (some a4) k c4, .int .i64 C.p, .int .i64 C.s, .int .i64 C.f], .agg #[.int .i64 fd, .int .i64 fq]] w fun e w' => e = .returned (.tuple #[.int .i64 (torq C fd fq), .nilIface]) ∧ Below w.heap.size w w' := by
  have ok := cf_ok hc
  have hb0 := ((Below.refl w.heap.size w).alloc (Nat.le_refl _) (.cells #[.int .i64 C.r, .int .i64 C.m, .slice (some a1) n c1, .slice (some a2) n c2, .slice (some a3) k c3, .slice (some a4) k c4, .int .i64 C.p, .int .i64 C.s, .int .i64 C.f] 26)).alloc (by simp) (.cells #[.int .i64 fd, .int .i64 fq] 33)
  have g0 := (Blk.new w 26 #[.int .i64 C.r, .int .i64 C.m, .slice (some a1) n c1, .slice (some a2) n c2, .slice (some a3) k c3, .slice (some a4) k c4, .int .i64 C.p, .int .i64 C.s, .int .i64 C.f]).alloc (.cells #[.int .i64 fd, .int .i64 fq] 33)
  have g1 := Blk.new' (w := w.alloc (.cells #[.int .i64 C.r, .int .i64 C.m, .slice (some a1) n c1, .slice (some a2) n c2, .slice (some a3) k c3, .slice (some a4) k c4, .int .i64 C.p, .int .i64 C.s, .int .i64 C.f] 26)) (t := 33) (cs := #[.int .i64 fd, .int .i64 fq]) (g := w.heap.size + 1) (by simp)
  have L0 := (L.new (.cells #[.int .i64 C.r, .int .i64 C.m, .slice (some a1) n c1, .slice (some a2) n c2, .slice (some a3) k c3, .slice (some a4) k c4, .int .i64 C.p, .int .i64 C.s, .int .i64 C.f] 26)).new (.cells #[.int .i64 fd, .int .i64 fq] 33)
  have hcu := fun (W : World) (h : Ly W W.heap.size C (some a1) (some a2) (some a3) (some a4) n n k k) => currentsM C a1 a2 a3 a4 n k c1 c2 c3 c4 fd fq W h hc
  have hof := fun (W : World) (h : Ly W W.heap.size C (some a1) (some a2) (some a3) (some a4) n n k k) => offM C a1 a2 a3 a4 n k c1 c2 c3 c4 fd fq W h ok
  have bd := devD_bd ok fd
  have bq := devQ_bd ok fq
  have bi := curD_bd ok fd
  have bj := curQ_bd ok fq
  have bm := ok.m
  have bp := ok.p
  have bs := ok.s
  have hv : torq C fd fq = clipI ((3 * C.p * ((C.m + devD C fd) * curQ C fq - devQ C fq * curD C fd)).tdiv (2 * C.s)) (-16777216) 16777216 := rfl
  obtain ⟨D, hD⟩ : ∃ x, devD C fd = x := ⟨_, rfl⟩
  obtain ⟨Q, hQ⟩ : ∃ x, devQ C fq = x := ⟨_, rfl⟩
  obtain ⟨I, hI⟩ : ∃ x, curD C fd = x := ⟨_, rfl⟩
  obtain ⟨J, hJ⟩ : ∃ x, curQ C fq = x := ⟨_, rfl⟩
  simp only [hD, hQ] at hof
  simp only [hI, hJ] at hcu
  rw [hD, hQ, hI, hJ] at hv
  rw [hD] at bd
  rw [hQ] at bq
  rw [hI] at bi
  rw [hJ] at bj
  have m1 := mul_bd (a := C.m + D) (b := J) (A := 536870912) (B := 1048576) (by omega) (by omega)
  have m2 := mul_bd (a := Q) (b := I) (A := 268435456) (B := 1048576) (by omega) (by omega)
  have m3 := mul_bd (a := 3 * C.p) (b := (C.m + D) * J - Q * I) (A := 192) (B := 844424930131968) (by omega) (by omega)
  have e1 : IntKind.i64.wrap ((C.m + D) * J) = (C.m + D) * J := IntWalk.i64_in _ (by omega)
  have e2 : IntKind.i64.wrap (Q * I) = Q * I := IntWalk.i64_in _ (by omega)
  have e3 : IntKind.i64.wrap ((C.m + D) * J - Q * I) = (C.m + D) * J - Q * I := IntWalk.i64_in _ (by omega)
  have e4 : IntKind.i64.wrap (3 * C.p * ((C.m + D) * J - Q * I)) = 3 * C.p * ((C.m + D) * J - Q * I) := IntWalk.i64_in _ (by omega)
  have e5 : IntKind.i64.wrap (C.m + D) = C.m + D := IntWalk.i64_in _ (by omega)
  have e6 : IntKind.i64.wrap (3 * C.p) = 3 * C.p := IntWalk.i64_in _ (by omega)
  have e7 : IntKind.i64.wrap (2 * C.s) = 2 * C.s := IntWalk.i64_in _ (by omega)
  have n1 : ¬ 2 * C.s = 0 := by omega
  have n2 : ¬ 2 * C.s = -1 := by omega
  have d1 := tdiv_in (a := 3 * C.p * ((C.m + D) * J - Q * I)) (b := 2 * C.s) (A := -162129586585337856) (B := 162129586585337856) (by omega) (by omega) (by omega)
  obtain ⟨U, hU⟩ : ∃ c, (3 * C.p * ((C.m + D) * J - Q * I)).tdiv (2 * C.s) = c := ⟨_, rfl⟩
  rw [hU] at d1 hv
  obtain ⟨d1a, d1b⟩ := d1
  rw [hv]
  have hcl := fun W => clipM U (-16777216) 16777216 (by omega) W
  obtain ⟨V, hV⟩ : ∃ c, clipI U (-16777216) 16777216 = c := ⟨_, rfl⟩
  simp only [hV] at hcl ⊢
  have HCL := hide hcl
  have HCU := hide hcu
  have HOF := hide hof
  clear hcu hof hcl hD hQ hI hJ hV hv m1 m2 m3 ok hc
  go_enter Try.func19, Try.ntmps19
  go_wp2_with fail
  refine ((unhide HCU) _ L0).mono ?_
  rintro e w1 ⟨rfl, hb1⟩
  have HB1 := hb0.trans (hb1.mono hb0.size)
  have g01 := g0.below hb1 g0.lt
  have g11 := g1.below hb1 g1.lt
  have L1 := L0.to hb1
  have l11 := g11.lt
  have l01 := g01.lt
  have l11' : w.heap.size + 1 < w1.heap.size + 1 := by omega
  have l01' : w.heap.size < w1.heap.size + 1 := by omega
  obtain ⟨y0, y1, y2, y3, y4, y5, y6, y7, y8⟩ := g01.c9
  obtain ⟨z0, z1⟩ := g11.c2
  go_wp2_with fail
  refine ((unhide HOF) _ (L1.new _)).mono ?_
  rintro e w2 ⟨rfl, hb2⟩
  have gi := Blk.new' (w := w1) (t := 31) (cs := #[.int .i64 I, .int .i64 J]) (g := w1.heap.size) rfl
  have gi2 := gi.below hb2 gi.lt
  have g02 := (g01.alloc _).below hb2 (by simp; omega)
  have HB2 := (HB1.alloc HB1.size _).trans (hb2.mono (by simp; omega))
  have l2 := gi2.lt
  have l02 := g02.lt
  clear y0 y1 y2 y3 y4 y5 y6 y7 y8 z0 z1
  obtain ⟨y0, y1, y2, y3, y4, y5, y6, y7, y8⟩ := g02.c9
  obtain ⟨z0, z1⟩ := gi2.c2
  go_wp2_with (first | (go_at_call 45; refine ((unhide HCL) _).mono ?_; rintro e w' ⟨rfl, rfl⟩))
  go_ret2
  exact ⟨rfl, HB2⟩
set_option maxRecDepth 100000 in
set_option maxHeartbeats 1600000 in
theorem torqueR (C : Cf) (a1 a2 a3 a4 : Addr) (n k c1 c2 c3 c4 : Nat) (fd fq : Int) (w : World) (L : Ly w w.heap.size C (some a1) (some a2) (some a3) (some a4) n n k k) (ok : CfOk C) :
    Calls Try.prog 22 #[.agg #[.int .i64 C.r, .int .i64 C.m, .slice (some a1) n c1, .slice (some a2) n c2, .slice (some a3) k c3, .slice (some a4) k c4, .int .i64 C.p, .int .i64 C.s, .int .i64 C.f], .agg #[.int .i64 fd, .int .i64 fq]] w fun e w' => e = .returned (.int .i64 (torq C fd fq)) ∧ Below w.heap.size w w' := by
  have hb0 := ((Below.refl w.heap.size w).alloc (Nat.le_refl _) (.cells #[.int .i64 C.r, .int .i64 C.m, .slice (some a1) n c1, .slice (some a2) n c2, .slice (some a3) k c3, .slice (some a4) k c4, .int .i64 C.p, .int .i64 C.s, .int .i64 C.f] 26)).alloc (by simp) (.cells #[.int .i64 fd, .int .i64 fq] 33)
  have g0 := (Blk.new w 26 #[.int .i64 C.r, .int .i64 C.m, .slice (some a1) n c1, .slice (some a2) n c2, .slice (some a3) k c3, .slice (some a4) k c4, .int .i64 C.p, .int .i64 C.s, .int .i64 C.f]).alloc (.cells #[.int .i64 fd, .int .i64 fq] 33)
  have g1 := Blk.new' (w := w.alloc (.cells #[.int .i64 C.r, .int .i64 C.m, .slice (some a1) n c1, .slice (some a2) n c2, .slice (some a3) k c3, .slice (some a4) k c4, .int .i64 C.p, .int .i64 C.s, .int .i64 C.f] 26)) (t := 33) (cs := #[.int .i64 fd, .int .i64 fq]) (g := w.heap.size + 1) (by simp)
  have L0 := (L.new (.cells #[.int .i64 C.r, .int .i64 C.m, .slice (some a1) n c1, .slice (some a2) n c2, .slice (some a3) k c3, .slice (some a4) k c4, .int .i64 C.p, .int .i64 C.s, .int .i64 C.f] 26)).new (.cells #[.int .i64 fd, .int .i64 fq] 33)
  have hno := fun (W : World) (h : Ly W W.heap.size C (some a1) (some a2) (some a3) (some a4) n n k k) => normalR C a1 a2 a3 a4 n k c1 c2 c3 c4 fd fq W h ok
  have hcu := fun (W : World) (h : Ly W W.heap.size C (some a1) (some a2) (some a3) (some a4) n n k k) => currentsR C a1 a2 a3 a4 n k c1 c2 c3 c4 (C.m + devD C fd) (devQ C fq) W h ok
  have ec1 : curD C (C.m + devD C fd) = curD C fd := by unfold curD; rw [devD_idem ok]
  have ec2 : curQ C (devQ C fq) = curQ C fq := by unfold curQ; rw [devQ_idem ok]
  simp only [ec1, ec2] at hcu
  have bd := devD_bd ok fd
  have bq := devQ_bd ok fq
  have bi := curD_bd ok fd
  have bj := curQ_bd ok fq
  have bm := ok.m
  have bp := ok.p
  have bs := ok.s
  have hv : torq C fd fq = clipI ((3 * C.p * ((C.m + devD C fd) * curQ C fq - devQ C fq * curD C fd)).tdiv (2 * C.s)) (-16777216) 16777216 := rfl
  obtain ⟨D, hD⟩ : ∃ x, C.m + devD C fd = x := ⟨_, rfl⟩
  obtain ⟨Q, hQ⟩ : ∃ x, devQ C fq = x := ⟨_, rfl⟩
  obtain ⟨I, hI⟩ : ∃ x, curD C fd = x := ⟨_, rfl⟩
  obtain ⟨J, hJ⟩ : ∃ x, curQ C fq = x := ⟨_, rfl⟩
  simp only [hD, hQ] at hno
  simp only [hD, hQ, hI, hJ] at hcu
  rw [hD, hQ, hI, hJ] at hv
  have bd : -536870912 ≤ D ∧ D ≤ 536870912 := by omega
  rw [hQ] at bq
  rw [hI] at bi
  rw [hJ] at bj
  have m1 := mul_bd (a := D) (b := J) (A := 536870912) (B := 1048576) (by omega) (by omega)
  have m2 := mul_bd (a := Q) (b := I) (A := 268435456) (B := 1048576) (by omega) (by omega)
  have m3 := mul_bd (a := 3 * C.p) (b := D * J - Q * I) (A := 192) (B := 844424930131968) (by omega) (by omega)
  have e1 : IntKind.i64.wrap (D * J) = D * J := IntWalk.i64_in _ (by omega)
  have e2 : IntKind.i64.wrap (Q * I) = Q * I := IntWalk.i64_in _ (by omega)
  have e3 : IntKind.i64.wrap (D * J - Q * I) = D * J - Q * I := IntWalk.i64_in _ (by omega)
  have e4 : IntKind.i64.wrap (3 * C.p * (D * J - Q * I)) = 3 * C.p * (D * J - Q * I) := IntWalk.i64_in _ (by omega)
  have e6 : IntKind.i64.wrap (3 * C.p) = 3 * C.p := IntWalk.i64_in _ (by omega)
  have e7 : IntKind.i64.wrap (2 * C.s) = 2 * C.s := IntWalk.i64_in _ (by omega)
  have n1 : ¬ 2 * C.s = 0 := by omega
  have n2 : ¬ 2 * C.s = -1 := by omega
  have d1 := tdiv_in (a := 3 * C.p * (D * J - Q * I)) (b := 2 * C.s) (A := -162129586585337856) (B := 162129586585337856) (by omega) (by omega) (by omega)
  obtain ⟨U, hU⟩ : ∃ c, (3 * C.p * (D * J - Q * I)).tdiv (2 * C.s) = c := ⟨_, rfl⟩
  rw [hU] at d1 hv
  obtain ⟨d1a, d1b⟩ := d1
  rw [hv]
  have hcl := fun W => clipR U (-16777216) 16777216 (by omega) W
  obtain ⟨V, hV⟩ : ∃ c, clipI U (-16777216) 16777216 = c := ⟨_, rfl⟩
  simp only [hV] at hcl ⊢
  have HCL := hide hcl
  have HCU := hide hcu
  have HNO := hide hno
  clear hcu hno hcl hD hQ hI hJ hV hv m1 m2 m3 ok ec1 ec2
  go_enter Try.func22, Try.ntmps22
  go_wp2_with fail
  refine ((unhide HNO) _ L0).mono ?_
  rintro e w1 ⟨rfl, hb1⟩
  have HB1 := hb0.trans (hb1.mono hb0.size)
  have g01 := g0.below hb1 g0.lt
  have g11 := g1.below hb1 g1.lt
  have L1 := L0.to hb1
  have l11 := g11.lt
  have l01 := g01.lt
  obtain ⟨y0, y1, y2, y3, y4, y5, y6, y7, y8⟩ := g01.c9
  obtain ⟨z0, z1⟩ := g11.c2
  have f0 := g11.frozen 0
  have f1 := g11.frozen 1
  go_wp2_with fail
  obtain ⟨W, hW⟩ : ∃ W, ((w1.setCell ⟨w.heap.size + 1, 0, none⟩ (.int .i64 D)).setCell ⟨w.heap.size + 1, 1, none⟩ (.int .i64 Q)) = W := ⟨_, rfl⟩
  have gW0 : Blk W w.heap.size 26 #[.int .i64 C.r, .int .i64 C.m, .slice (some a1) n c1, .slice (some a2) n c2, .slice (some a3) k c3, .slice (some a4) k c4, .int .i64 C.p, .int .i64 C.s, .int .i64 C.f] := by rw [← hW]; exact (g01.far (by simp) _).far (by simp) _
  have gW1 : Blk W (w.heap.size + 1) 33 #[.int .i64 D, .int .i64 Q] := by rw [← hW]; exact (g11.set_ 0 _).set_ 1 _
  have HW : Below w.heap.size w W := by rw [← hW]; exact (HB1.setCell (by simp) _).setCell (by simp) _
  simp only [hW]
  clear hW y0 y1 y2 y3 y4 y5 y6 y7 y8 z0 z1 f0 f1 g01 g11 l11 l01
  refine ((unhide HCU) _ ((L.below HW).more HW.size)).mono ?_
  rintro e w2 ⟨rfl, hb2⟩
  have HB2 := HW.trans (hb2.mono HW.size)
  have g02 := gW0.below hb2 gW0.lt
  have g12 := gW1.below hb2 gW1.lt
  have l2 := g12.lt
  have l02 := g02.lt
  have l2' : w.heap.size + 1 < w2.heap.size + 1 := by omega
  have l02' : w.heap.size < w2.heap.size + 1 := by omega
  obtain ⟨y0, y1, y2, y3, y4, y5, y6, y7, y8⟩ := g02.c9
  obtain ⟨z0, z1⟩ := g12.c2
  go_wp2_with (first | (go_at_call 48; refine ((unhide HCL) _).mono ?_; rintro e w' ⟨rfl, rfl⟩))
  go_ret
  exact ⟨rfl, HB2.alloc HB2.size _⟩
end Go.Proofs.Ytmmplfokidnpnaa
