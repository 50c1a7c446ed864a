/- The walk of the statement PlantRises. -/
import Derived.Test.YtpfkiohknpeifaaPAwake
import Derived.Test.YtpfkiohknpeifaaPLarge
import Derived.Test.YtpfkiohknpeifaaPLaws
import Derived.Test.YtpfkiohknpeifaaPRisesP
import Derived.Test.YtpfkiohknpeifaaMultiG
import Derived.Lib.MinMax
namespace Go.Proofs.Ytpfkiohknpeifaa
open Go.RowKit
theorem clipB_q (n lo hi : Int) (h : lo ≤ hi) (w : World) : Calls Try.prog 15 #[.int .i64 n, .int .i64 lo, .int .i64 hi] w fun e w' => e = .returned (.int .i64 (clipI n lo hi)) ∧ w' = w :=
  (clipB n lo hi h w).mono fun _ _ ⟨he, hw⟩ => ⟨he, hw.symm⟩
set_option maxRecDepth 100000 in
theorem psize_walk (x y : Int) (hx : -4294967296 ≤ x ∧ x ≤ 4294967296) (hy : -4294967296 ≤ y ∧ y ≤ 4294967296) (w : World) : Calls Try.prog 18 #[.agg #[.int .i64 x, .int .i64 y]] w fun e w' => e = .returned (.int .i64 (szI x y)) ∧ Below w.heap.size w w' := by
  have hb0 := (Below.refl w.heap.size w).alloc (Nat.le_refl _) (.cells #[.int .i64 x, .int .i64 y] 37)
  have hm : ∀ (W : World) (ts : Array TypeId) (t : TypeId), (Builtin.max_ ts t #[.int .i64 x, .int .i64 (-x), .int .i64 y, .int .i64 (-y)]).run Try.prog W = .ok (.int .i64 (szI x y)) W := fun W ts t => run_max4 W ts t x (-x) y (-y)
  obtain ⟨Z, hZ⟩ : ∃ z, szI x y = z := ⟨_, rfl⟩
  simp only [hZ] at hm ⊢
  clear hZ
  go_enter Try.func18, Try.ntmps18
  go_wp2
  go_ret
  exact ⟨rfl, hb0⟩
theorem run_max2' (w : World) (ts : Array TypeId) (t : TypeId) (a b : Int) : (Builtin.max_ ts t #[.int .i64 a, .int .i64 b]).run Try.prog w = .ok (.int .i64 (max a b)) w := by
  have e : ∀ x y : Int, (if y > x then y else x) = max x y := fun x y => by rw [Int.max_def]; split <;> split <;> omega
  simp [Builtin.max_, Builtin.max2, e]
theorem griseM (P : Pc) (X : Pa) (bv bt bc : Int) (w : World) (L : Py w w.heap.size P X) (hc : cfCode P.m = 0) (hbd : bdCode bv bt bc = 0) :
    Calls Try.prog 17 #[.agg #[.int .i64 P.m.r, .int .i64 P.m.m, .slice X.A1 X.n1 X.c1, .slice X.A2 X.n2 X.c2, .slice X.A3 X.n3 X.c3, .slice X.A4 X.n4 X.c4, .int .i64 P.m.p, .int .i64 P.m.s, .int .i64 P.m.f], .agg #[.int .i64 bv, .int .i64 bt, .int .i64 bc]] w fun e w' => e = .returned (.tuple #[.int .i64 (riI P.m bv bt bc), .nilIface]) ∧ Below w.heap.size w w' := by
  have h := L.m
  obtain ⟨a1, a2, a3, a4, e1, e2, e3, e4, e5, e6⟩ := h.ptrs (cf_ok hc)
  rw [e1, e2, e3, e4, e5, e6] at h ⊢
  exact riseM P.m a1 a2 a3 a4 X.n1 X.n3 X.c1 X.c2 X.c3 X.c4 bv bt bc w h hc hbd
/-- The state, its turn moved into its range. -/
def sTn (s : Ps) : Ps := ⟨s.fd, s.fq, s.v, s.b, s.po, s.sp, s.h, clipI s.tn (-16384) 16384⟩
set_option maxRecDepth 100000 in
set_option maxHeartbeats 6400000 in
theorem prises_large (P : Pc) (X : Pa) (s : Ps) (YA : Option Addr) (yn yc : Nat) (z : Pi) (GA : Option Addr) (gn gc : Nat) (w : World) (hl : lgP X yn gn = true) :
    Calls Try.prog 6 #[.agg #[.int .i64 P.m.r, .int .i64 P.m.m, .slice X.A1 X.n1 X.c1, .slice X.A2 X.n2 X.c2, .slice X.A3 X.n3 X.c3, .slice X.A4 X.n4 X.c4, .int .i64 P.m.p, .int .i64 P.m.s, .int .i64 P.m.f, .int .i64 P.l.num, .int .i64 P.l.den, .int .i64 P.l.sup, .int .i64 P.l.fed, .int .i64 P.l.ohm, .int .i64 P.l.bon, .int .i64 P.l.boff, .int .i64 P.l.bohm, .int .i64 P.g, .int .i64 P.d, .int .i64 P.y, .slice X.B1 X.m1 X.d1, .slice X.B2 X.m2 X.d2, .slice X.B3 X.m3 X.d3, .int .i64 P.wi, .int .i64 P.sw], .agg #[.int .i64 s.fd, .int .i64 s.fq, .int .i64 s.v, .bool s.b, .int .i64 s.po, .int .i64 s.sp, .slice YA yn yc, .int .i64 s.tn], .agg #[.int .i64 z.per, .bool z.b0, .bool z.b1, .bool z.b2, .bool z.b3, .bool z.b4, .bool z.b5, .slice GA gn gc, .int .i64 z.ld, .int .i64 z.amb, .bool z.k0, .bool z.k1, .bool z.k2, .bool z.k3, .bool z.k4, .bool z.k5, .bool z.de, .bool z.nb]] w fun e w' => e = .returned (.bool true) ∧ Below w.heap.size w w' := by
  have kl := fun W => large_walkP P X s YA yn yc z GA gn gc W
  simp only [hl] at kl
  have KL := hide kl
  clear kl
  clear hl
  have HB := Below.refl w.heap.size w
  obtain ⟨w1, eW1, sW1, rc, hb⟩ := box w #[.int .i64 P.m.r, .int .i64 P.m.m, .slice X.A1 X.n1 X.c1, .slice X.A2 X.n2 X.c2, .slice X.A3 X.n3 X.c3, .slice X.A4 X.n4 X.c4, .int .i64 P.m.p, .int .i64 P.m.s, .int .i64 P.m.f, .int .i64 P.l.num, .int .i64 P.l.den, .int .i64 P.l.sup, .int .i64 P.l.fed, .int .i64 P.l.ohm, .int .i64 P.l.bon, .int .i64 P.l.boff, .int .i64 P.l.bohm, .int .i64 P.g, .int .i64 P.d, .int .i64 P.y, .slice X.B1 X.m1 X.d1, .slice X.B2 X.m2 X.d2, .slice X.B3 X.m3 X.d3, .int .i64 P.wi, .int .i64 P.sw] 35 (g := w.heap.size) rfl HB (by have := HB.size; omega)
  have Qrc : Hid (w.heap.size ≤ w.heap.size) := Lib.hid (by have := HB.size; omega)
  replace HB := hb
  clear hb
  obtain ⟨w2, eW2, sW2, rs, hb⟩ := box w1 #[.int .i64 s.fd, .int .i64 s.fq, .int .i64 s.v, .bool s.b, .int .i64 s.po, .int .i64 s.sp, .slice YA yn yc, .int .i64 s.tn] 45 (g := w.heap.size + 1) sW1 HB (by have := HB.size; omega)
  have Qrs : Hid (w.heap.size ≤ w.heap.size + 1 ∧ w.heap.size < w.heap.size + 1) := Lib.hid ⟨by have := HB.size; omega, by have := rc.lt; omega⟩
  replace rc := rc.al eW2
  replace HB := hb
  clear hb
  obtain ⟨w3, eW3, sW3, ri, hb⟩ := box w2 #[.int .i64 z.per, .bool z.b0, .bool z.b1, .bool z.b2, .bool z.b3, .bool z.b4, .bool z.b5, .slice GA gn gc, .int .i64 z.ld, .int .i64 z.amb, .bool z.k0, .bool z.k1, .bool z.k2, .bool z.k3, .bool z.k4, .bool z.k5, .bool z.de, .bool z.nb] 51 (g := w.heap.size + 1 + 1) sW2 HB (by have := HB.size; omega)
  have Qri : Hid (w.heap.size ≤ w.heap.size + 1 + 1 ∧ w.heap.size < w.heap.size + 1 + 1 ∧ w.heap.size + 1 < w.heap.size + 1 + 1) := Lib.hid ⟨by have := HB.size; omega, by have := rc.lt; omega, by have := rs.lt; omega⟩
  replace rc := rc.al eW3
  replace rs := rs.al eW3
  replace HB := hb
  clear hb
  go_enter Try.func6, Try.ntmps6
  go_wp2_with fail
  with_reducible refine (awakeP_walk _).mono ?_
  rintro e w4 ⟨rfl, hb⟩
  replace rc := rc.below hb rc.lt
  replace rs := rs.below hb rs.lt
  replace ri := ri.below hb ri.lt
  replace HB := HB.trans (hb.mono HB.size)
  clear hb
  clear eW1 sW1 eW2 sW2 eW3 sW3
  go_wp2_with (first | (refine wpList_load_row rfl 35 _ rfl (w.heap.size) rfl _ _ _ _ rc Try.underlying35 rfl (by kernel_rfl) ?_) | (refine wpList_load_rowG 35 _ rfl (by go_simp) (w.heap.size) rfl _ _ _ _ rc Try.underlying35 rfl (by kernel_rfl) ?_) | (refine wpList_load_row rfl 45 _ rfl (w.heap.size + 1) rfl _ _ _ _ rs Try.underlying45 rfl (by kernel_rfl) ?_) | (refine wpList_load_rowG 45 _ rfl (by go_simp) (w.heap.size + 1) rfl _ _ _ _ rs Try.underlying45 rfl (by kernel_rfl) ?_) | (refine wpList_load_row rfl 51 _ rfl (w.heap.size + 1 + 1) rfl _ _ _ _ ri Try.underlying51 rfl (by kernel_rfl) ?_) | (refine wpList_load_rowG 51 _ rfl (by go_simp) (w.heap.size + 1 + 1) rfl _ _ _ _ ri Try.underlying51 rfl (by kernel_rfl) ?_))
  with_reducible refine ((unhide KL) _).mono ?_
  rintro e w5 ⟨rfl, hb⟩
  replace rc := rc.below hb rc.lt
  replace rs := rs.below hb rs.lt
  replace ri := ri.below hb ri.lt
  replace HB := HB.trans (hb.mono HB.size)
  clear hb
  go_wp2_with fail
  with_reducible refine (awakeP_walk _).mono ?_
  rintro e w6 ⟨rfl, hb⟩
  replace rc := rc.below hb rc.lt
  replace rs := rs.below hb rs.lt
  replace ri := ri.below hb ri.lt
  replace HB := HB.trans (hb.mono HB.size)
  clear hb
  go_wp2
  go_ret
  exact ⟨rfl, HB⟩
set_option maxRecDepth 100000 in
set_option maxHeartbeats 6400000 in
theorem prises_bad (P : Pc) (X : Pa) (s : Ps) (YA : Option Addr) (yn yc : Nat) (z : Pi) (GA : Option Addr) (gn gc : Nat) (w : World) (L : Py w w.heap.size P X) (ey : yn = s.h.length) (SG : Sl w w.heap.size 3 GA (z.es.map I.Ed.row)) (eg : gn = z.es.length) (hl : lgP X yn gn = false) (hc : stCode P (sTn s) z ≠ 0) :
    Calls Try.prog 6 #[.agg #[.int .i64 P.m.r, .int .i64 P.m.m, .slice X.A1 X.n1 X.c1, .slice X.A2 X.n2 X.c2, .slice X.A3 X.n3 X.c3, .slice X.A4 X.n4 X.c4, .int .i64 P.m.p, .int .i64 P.m.s, .int .i64 P.m.f, .int .i64 P.l.num, .int .i64 P.l.den, .int .i64 P.l.sup, .int .i64 P.l.fed, .int .i64 P.l.ohm, .int .i64 P.l.bon, .int .i64 P.l.boff, .int .i64 P.l.bohm, .int .i64 P.g, .int .i64 P.d, .int .i64 P.y, .slice X.B1 X.m1 X.d1, .slice X.B2 X.m2 X.d2, .slice X.B3 X.m3 X.d3, .int .i64 P.wi, .int .i64 P.sw], .agg #[.int .i64 s.fd, .int .i64 s.fq, .int .i64 s.v, .bool s.b, .int .i64 s.po, .int .i64 s.sp, .slice YA yn yc, .int .i64 s.tn], .agg #[.int .i64 z.per, .bool z.b0, .bool z.b1, .bool z.b2, .bool z.b3, .bool z.b4, .bool z.b5, .slice GA gn gc, .int .i64 z.ld, .int .i64 z.amb, .bool z.k0, .bool z.k1, .bool z.k2, .bool z.k3, .bool z.k4, .bool z.k5, .bool z.de, .bool z.nb]] w fun e w' => e = .returned (.bool true) ∧ Below w.heap.size w w' := by
  have kl := fun W => large_walkP P X s YA yn yc z GA gn gc W
  simp only [hl] at kl
  have KL := hide kl
  clear kl
  have gm : gn ≤ 1000000 := by have := lgP_gn hl; omega
  have k2 := fun (W : World) (h : Py W W.heap.size P X) (hg : Sl W W.heap.size 3 GA (z.es.map I.Ed.row)) => pstepM_bad P X (sTn s) YA yn yc z GA gn gc W h ey hg eg gm hc
  simp only [errV_ne hc] at k2
  dsimp only [sTn] at k2
  have q1 := fun W => clipB s.tn (-16384) 16384 (by omega) W
  obtain ⟨T, hT⟩ : ∃ x, clipI s.tn (-16384) 16384 = x := ⟨_, rfl⟩
  simp only [hT] at k2 q1
  have K2 := hide k2
  have Q1 := hide q1
  clear k2 q1 hT hl hc ey eg gm
  have HB := Below.refl w.heap.size w
  obtain ⟨w1, eW1, sW1, rc, hb⟩ := box w #[.int .i64 P.m.r, .int .i64 P.m.m, .slice X.A1 X.n1 X.c1, .slice X.A2 X.n2 X.c2, .slice X.A3 X.n3 X.c3, .slice X.A4 X.n4 X.c4, .int .i64 P.m.p, .int .i64 P.m.s, .int .i64 P.m.f, .int .i64 P.l.num, .int .i64 P.l.den, .int .i64 P.l.sup, .int .i64 P.l.fed, .int .i64 P.l.ohm, .int .i64 P.l.bon, .int .i64 P.l.boff, .int .i64 P.l.bohm, .int .i64 P.g, .int .i64 P.d, .int .i64 P.y, .slice X.B1 X.m1 X.d1, .slice X.B2 X.m2 X.d2, .slice X.B3 X.m3 X.d3, .int .i64 P.wi, .int .i64 P.sw] 35 (g := w.heap.size) rfl HB (by have := HB.size; omega)
  have Qrc : Hid (w.heap.size ≤ w.heap.size) := Lib.hid (by have := HB.size; omega)
  replace HB := hb
  clear hb
  obtain ⟨w2, eW2, sW2, rs, hb⟩ := box w1 #[.int .i64 s.fd, .int .i64 s.fq, .int .i64 s.v, .bool s.b, .int .i64 s.po, .int .i64 s.sp, .slice YA yn yc, .int .i64 s.tn] 45 (g := w.heap.size + 1) sW1 HB (by have := HB.size; omega)
  have Qrs : Hid (w.heap.size ≤ w.heap.size + 1 ∧ w.heap.size < w.heap.size + 1) := Lib.hid ⟨by have := HB.size; omega, by have := rc.lt; omega⟩
  replace rc := rc.al eW2
  replace HB := hb
  clear hb
  obtain ⟨w3, eW3, sW3, ri, hb⟩ := box w2 #[.int .i64 z.per, .bool z.b0, .bool z.b1, .bool z.b2, .bool z.b3, .bool z.b4, .bool z.b5, .slice GA gn gc, .int .i64 z.ld, .int .i64 z.amb, .bool z.k0, .bool z.k1, .bool z.k2, .bool z.k3, .bool z.k4, .bool z.k5, .bool z.de, .bool z.nb] 51 (g := w.heap.size + 1 + 1) sW2 HB (by have := HB.size; omega)
  have Qri : Hid (w.heap.size ≤ w.heap.size + 1 + 1 ∧ w.heap.size < w.heap.size + 1 + 1 ∧ w.heap.size + 1 < w.heap.size + 1 + 1) := Lib.hid ⟨by have := HB.size; omega, by have := rc.lt; omega, by have := rs.lt; omega⟩
  replace rc := rc.al eW3
  replace rs := rs.al eW3
  replace HB := hb
  clear hb
  go_enter Try.func6, Try.ntmps6
  go_wp2_with fail
  with_reducible refine (awakeP_walk _).mono ?_
  rintro e w4 ⟨rfl, hb⟩
  replace rc := rc.below hb rc.lt
  replace rs := rs.below hb rs.lt
  replace ri := ri.below hb ri.lt
  replace HB := HB.trans (hb.mono HB.size)
  clear hb
  clear eW1 sW1 eW2 sW2 eW3 sW3
  go_wp2_with (first | (refine wpList_load_row rfl 35 _ rfl (w.heap.size) rfl _ _ _ _ rc Try.underlying35 rfl (by kernel_rfl) ?_) | (refine wpList_load_rowG 35 _ rfl (by go_simp) (w.heap.size) rfl _ _ _ _ rc Try.underlying35 rfl (by kernel_rfl) ?_) | (refine wpList_load_row rfl 45 _ rfl (w.heap.size + 1) rfl _ _ _ _ rs Try.underlying45 rfl (by kernel_rfl) ?_) | (refine wpList_load_rowG 45 _ rfl (by go_simp) (w.heap.size + 1) rfl _ _ _ _ rs Try.underlying45 rfl (by kernel_rfl) ?_) | (refine wpList_load_row rfl 51 _ rfl (w.heap.size + 1 + 1) rfl _ _ _ _ ri Try.underlying51 rfl (by kernel_rfl) ?_) | (refine wpList_load_rowG 51 _ rfl (by go_simp) (w.heap.size + 1 + 1) rfl _ _ _ _ ri Try.underlying51 rfl (by kernel_rfl) ?_))
  with_reducible refine ((unhide KL) _).mono ?_
  rintro e w5 ⟨rfl, hb⟩
  replace rc := rc.below hb rc.lt
  replace rs := rs.below hb rs.lt
  replace ri := ri.below hb ri.lt
  replace HB := HB.trans (hb.mono HB.size)
  clear hb
  have rsc7 := rs.cell 7
  have fr7 := rs.frozen 7
  have qrc := Qrc.out
  have qrs := Qrs.out
  have qri := Qri.out
  have nrc : ¬ w.heap.size = w.heap.size + 1 := by omega
  have mrc : ¬ w.heap.size + 1 = w.heap.size := by omega
  have nri : ¬ w.heap.size + 1 + 1 = w.heap.size + 1 := by omega
  have mri : ¬ w.heap.size + 1 = w.heap.size + 1 + 1 := by omega
  clear qrc qrs qri
  go_upto_region 4 with ((first | (go_at_call 15; (with_reducible refine ((unhide Q1) _).mono ?_); rintro e w' ⟨rfl, rfl⟩)))
  have qrc := Qrc.out
  have qrs := Qrs.out
  have qri := Qri.out
  obtain ⟨w6, hw⟩ : ∃ W, (w5.setCell ⟨w.heap.size + 1, 7, none⟩ (.int .i64 T)) = W := ⟨_, rfl⟩
  replace rc : Blk w6 (w.heap.size) 35 #[.int .i64 P.m.r, .int .i64 P.m.m, .slice X.A1 X.n1 X.c1, .slice X.A2 X.n2 X.c2, .slice X.A3 X.n3 X.c3, .slice X.A4 X.n4 X.c4, .int .i64 P.m.p, .int .i64 P.m.s, .int .i64 P.m.f, .int .i64 P.l.num, .int .i64 P.l.den, .int .i64 P.l.sup, .int .i64 P.l.fed, .int .i64 P.l.ohm, .int .i64 P.l.bon, .int .i64 P.l.boff, .int .i64 P.l.bohm, .int .i64 P.g, .int .i64 P.d, .int .i64 P.y, .slice X.B1 X.m1 X.d1, .slice X.B2 X.m2 X.d2, .slice X.B3 X.m3 X.d3, .int .i64 P.wi, .int .i64 P.sw] := hw ▸ (rc.far (by simp <;> omega) _)
  replace rs : Blk w6 (w.heap.size + 1) 45 #[.int .i64 s.fd, .int .i64 s.fq, .int .i64 s.v, .bool s.b, .int .i64 s.po, .int .i64 s.sp, .slice YA yn yc, .int .i64 T] := hw ▸ (rs.set_ 7 _)
  replace ri : Blk w6 (w.heap.size + 1 + 1) 51 #[.int .i64 z.per, .bool z.b0, .bool z.b1, .bool z.b2, .bool z.b3, .bool z.b4, .bool z.b5, .slice GA gn gc, .int .i64 z.ld, .int .i64 z.amb, .bool z.k0, .bool z.k1, .bool z.k2, .bool z.k3, .bool z.k4, .bool z.k5, .bool z.de, .bool z.nb] := hw ▸ (ri.far (by simp <;> omega) _)
  replace HB : Below w.heap.size w w6 := hw ▸ (HB.setCell (by simp <;> omega) _)
  simp only [hw]
  clear hw
  clear rsc7 fr7 nrc mrc nri mri qrc qrs qri
  go_wp2_with (first | (refine wpList_load_row rfl 35 _ rfl (w.heap.size) rfl _ _ _ _ rc Try.underlying35 rfl (by kernel_rfl) ?_) | (refine wpList_load_row rfl 45 _ rfl (w.heap.size + 1) rfl _ _ _ _ rs Try.underlying45 rfl (by kernel_rfl) ?_) | (refine wpList_load_row rfl 51 _ rfl (w.heap.size + 1 + 1) rfl _ _ _ _ ri Try.underlying51 rfl (by kernel_rfl) ?_))
  with_reducible refine ((unhide K2) _ ((L.below HB).more HB.size) ((SG.below HB).more HB.size)).mono ?_
  rintro e w7 ⟨rfl, hb⟩
  replace rc := rc.below hb rc.lt
  replace rs := rs.below hb rs.lt
  replace ri := ri.below hb ri.lt
  replace HB := HB.trans (hb.mono HB.size)
  clear hb
  obtain ⟨w8, eW8, sW8, rt, hb⟩ := box w7 #[.int .i64 0, .int .i64 0, .int .i64 0, .bool false, .int .i64 0, .int .i64 0, .slice none 0 0, .int .i64 0] 45 (g := w7.heap.size) rfl HB (by have := HB.size; omega)
  have Qrt : Hid (w.heap.size ≤ w7.heap.size ∧ w.heap.size < w7.heap.size ∧ w.heap.size + 1 < w7.heap.size ∧ w.heap.size + 1 + 1 < w7.heap.size) := Lib.hid ⟨by have := HB.size; omega, by have := rc.lt; omega, by have := rs.lt; omega, by have := ri.lt; omega⟩
  replace rc := rc.al eW8
  replace rs := rs.al eW8
  replace ri := ri.al eW8
  replace HB := hb
  clear hb
  have qrc := Qrc.out
  have qrs := Qrs.out
  have qri := Qri.out
  have qrt := Qrt.out
  have rto8 := rt
  obtain ⟨w9, eW9, sW9, hr, hb⟩ := rowX rt #[.int .i64 0, .int .i64 0, .int .i64 0, .bool false, .int .i64 0, .int .i64 0, .slice none 0 0, .int .i64 0] (n := w7.heap.size + 1) sW8 HB (by omega)
  replace rc := rc.rowTo eW9 (by omega)
  replace rs := rs.rowTo eW9 (by omega)
  replace ri := ri.rowTo eW9 (by omega)
  replace rt := hr
  replace HB := hb
  clear hb hr qrc qrs qri qrt
  go_wp2_with (first | (refine wpList_store_row rfl 45 _ _ rfl (w7.heap.size) #[.int .i64 0, .int .i64 0, .int .i64 0, .bool false, .int .i64 0, .int .i64 0, .slice none 0 0, .int .i64 0] rfl rfl _ _ rto8 (by kernel_rfl) (by kernel_rfl) (by kernel_rfl) ?_))
  go_ret
  exact ⟨rfl, HB⟩
set_option maxRecDepth 100000 in
set_option maxHeartbeats 6400000 in
theorem prises_oka (P : Pc) (X : Pa) (s : Ps) (YA : Option Addr) (yn yc : Nat) (z : Pi) (GA : Option Addr) (gn gc : Nat) (w : World) (L : Py w w.heap.size P X) (SY : Sl w w.heap.size 1 YA (rows s.h)) (ey : yn = s.h.length) (SG : Sl w w.heap.size 3 GA (z.es.map I.Ed.row)) (eg : gn = z.es.length) (hl : lgP X yn gn = false) (hc : stCode P (sTn s) z = 0) (hz : szI (curD P.m (pxS P (sTn s) z).fd - curD P.m s.fd) (curQ P.m (pxS P (sTn s) z).fq - curQ P.m s.fq) ≤ riI P.m (clipI s.v 0 1048576) (max (clipI s.tn (-16384) 16384) (-(clipI s.tn (-16384) 16384))) (szI (curD P.m s.fd) (curQ P.m s.fq))) :
    Calls Try.prog 6 #[.agg #[.int .i64 P.m.r, .int .i64 P.m.m, .slice X.A1 X.n1 X.c1, .slice X.A2 X.n2 X.c2, .slice X.A3 X.n3 X.c3, .slice X.A4 X.n4 X.c4, .int .i64 P.m.p, .int .i64 P.m.s, .int .i64 P.m.f, .int .i64 P.l.num, .int .i64 P.l.den, .int .i64 P.l.sup, .int .i64 P.l.fed, .int .i64 P.l.ohm, .int .i64 P.l.bon, .int .i64 P.l.boff, .int .i64 P.l.bohm, .int .i64 P.g, .int .i64 P.d, .int .i64 P.y, .slice X.B1 X.m1 X.d1, .slice X.B2 X.m2 X.d2, .slice X.B3 X.m3 X.d3, .int .i64 P.wi, .int .i64 P.sw], .agg #[.int .i64 s.fd, .int .i64 s.fq, .int .i64 s.v, .bool s.b, .int .i64 s.po, .int .i64 s.sp, .slice YA yn yc, .int .i64 s.tn], .agg #[.int .i64 z.per, .bool z.b0, .bool z.b1, .bool z.b2, .bool z.b3, .bool z.b4, .bool z.b5, .slice GA gn gc, .int .i64 z.ld, .int .i64 z.amb, .bool z.k0, .bool z.k1, .bool z.k2, .bool z.k3, .bool z.k4, .bool z.k5, .bool z.de, .bool z.nb]] w fun e w' => e = .returned (.bool true) ∧ Below w.heap.size w w' := by
  have kl := fun W => large_walkP P X s YA yn yc z GA gn gc W
  simp only [hl] at kl
  have KL := hide kl
  clear kl
  obtain ⟨hp, hi⟩ := st_ok hc
  have okm := cf_ok (pl_ok hp).m
  have gm : gn ≤ 1000000 := by have := lgP_gn hl; omega
  have bV := clipI_in s.v 0 1048576 (by omega)
  have bT := clipI_in s.tn (-16384) 16384 (by omega)
  have b1 := curD_bd okm s.fd
  have b2 := curQ_bd okm s.fq
  have b3 := curD_bd okm (pxS P (sTn s) z).fd
  have b4 := curQ_bd okm (pxS P (sTn s) z).fq
  have k2 := fun (W : World) (h : Py W W.heap.size P X) (hy : Sl W W.heap.size 1 YA (rows s.h)) (hg : Sl W W.heap.size 3 GA (z.es.map I.Ed.row)) => pstepM_k P X (sTn s) YA yn yc z GA gn gc W h hy ey hg eg gm hc
  obtain ⟨nx, hnx⟩ : ∃ x, pxS P (sTn s) z = x := ⟨_, rfl⟩
  simp only [hnx] at k2
  rw [hnx] at hz b3 b4
  dsimp only [sTn] at k2
  have q1 := fun W => clipB s.tn (-16384) 16384 (by omega) W
  have q2 := fun W => clipB_q s.v 0 1048576 (by omega) W
  obtain ⟨T, hT⟩ : ∃ x, clipI s.tn (-16384) 16384 = x := ⟨_, rfl⟩
  obtain ⟨V, hV⟩ : ∃ x, clipI s.v 0 1048576 = x := ⟨_, rfl⟩
  simp only [hT] at k2 q1
  simp only [hV] at q2
  rw [hT] at hz bT
  rw [hV] at hz bV
  have k4 := fun (W : World) (h : Py W W.heap.size P X) => gcurM P X s.fd s.fq W h (pl_ok hp).m
  have k5 := fun (W : World) (h : Py W W.heap.size P X) => gcurM P X nx.fd nx.fq W h (pl_ok hp).m
  obtain ⟨i1, g1⟩ : ∃ x, curD P.m s.fd = x := ⟨_, rfl⟩
  obtain ⟨i2, g2⟩ : ∃ x, curQ P.m s.fq = x := ⟨_, rfl⟩
  obtain ⟨j1, g3⟩ : ∃ x, curD P.m nx.fd = x := ⟨_, rfl⟩
  obtain ⟨j2, g4⟩ : ∃ x, curQ P.m nx.fq = x := ⟨_, rfl⟩
  simp only [g1, g2] at k4
  simp only [g3, g4] at k5
  rw [g1] at b1
  rw [g2] at b2
  rw [g3] at b3
  rw [g4] at b4
  rw [g1, g2, g3, g4] at hz
  skip
  obtain ⟨M, hM⟩ : ∃ x, max T (-T) = x := ⟨_, rfl⟩
  rw [hM] at hz
  have bM : 0 ≤ M ∧ M ≤ 16384 := by omega
  have hsz : szI i1 i2 = max (max (max i1 (-i1)) i2) (-i2) := rfl
  obtain ⟨SI, hSI⟩ : ∃ x, szI i1 i2 = x := ⟨_, rfl⟩
  rw [hSI] at hsz hz
  have bS : 0 ≤ SI ∧ SI ≤ 1048576 := by omega
  have hCC : clipI SI 0 1048576 = SI := by unfold clipI; rw [if_neg (by omega), if_neg (by omega)]
  have q3 := fun W => clipB_q SI 0 1048576 (by omega) W
  simp only [hCC] at q3
  have hbd : bdCode V M SI = 0 := by unfold bdCode; rw [if_pos ⟨wiB_iff.2 (by omega), wiB_iff.2 (by omega), wiB_iff.2 (by omega)⟩]
  have k6 := fun (W : World) (h : Py W W.heap.size P X) => griseM P X V M SI W h (pl_ok hp).m hbd
  obtain ⟨R, hR⟩ : ∃ x, riI P.m V M SI = x := ⟨_, rfl⟩
  rw [hR] at hz
  simp only [hR] at k6
  have s1 := fun W => psize_walk i1 i2 (by omega) (by omega) W
  have s2 := fun W => psize_walk (j1 - i1) (j2 - i2) (by omega) (by omega) W
  have s3 := fun W => psize_walk j1 j2 (by omega) (by omega) W
  simp only [hSI] at s1
  obtain ⟨Z, hZ⟩ : ∃ z, szI (j1 - i1) (j2 - i2) = z := ⟨_, rfl⟩
  obtain ⟨SJ, hSJ⟩ : ∃ z, szI j1 j2 = z := ⟨_, rfl⟩
  simp only [hZ] at s2
  simp only [hSJ] at s3
  rw [hZ] at hz
  skip
  have e1 : wrap64 (-T) = -T := by unfold wrap64; omega
  have e1' : IntKind.i64.wrap (-T) = -T := IntWalk.i64_in _ (by omega)
  have hmm := hM
  have e2 : wrap64 (j1 - i1) = j1 - i1 := by unfold wrap64; omega
  have e2' : IntKind.i64.wrap (j1 - i1) = j1 - i1 := IntWalk.i64_in _ (by omega)
  have e3' : IntKind.i64.wrap (j2 - i2) = j2 - i2 := IntWalk.i64_in _ (by omega)
  have e3 : wrap64 (j2 - i2) = j2 - i2 := by unfold wrap64; omega
  have K2 := hide k2
  have K4 := hide k4
  have K5 := hide k5
  have K6 := hide k6
  have S1 := hide s1
  have S2 := hide s2
  have S3 := hide s3
  have Q1 := hide q1
  have Q2 := hide q2
  have Q3 := hide q3
  have hmx : ∀ (W : World) (ts : Array TypeId) (t : TypeId), (Builtin.max_ ts t #[.int .i64 T, .int .i64 (-T)]).run Try.prog W = .ok (.int .i64 M) W := fun W ts t => by rw [← hM]; exact run_max2' W ts t T (-T)
  clear k2 k4 k5 k6 s1 s2 s3 q1 q2 q3 hM hZ hSJ hSI hsz hCC hbd hR g1 g2 g3 g4 b1 b2 b3 b4 bV bT bM bS hT hV hnx okm gm hp hi hl hc ey eg
  have HB := Below.refl w.heap.size w
  obtain ⟨w1, eW1, sW1, rc, hb⟩ := box w #[.int .i64 P.m.r, .int .i64 P.m.m, .slice X.A1 X.n1 X.c1, .slice X.A2 X.n2 X.c2, .slice X.A3 X.n3 X.c3, .slice X.A4 X.n4 X.c4, .int .i64 P.m.p, .int .i64 P.m.s, .int .i64 P.m.f, .int .i64 P.l.num, .int .i64 P.l.den, .int .i64 P.l.sup, .int .i64 P.l.fed, .int .i64 P.l.ohm, .int .i64 P.l.bon, .int .i64 P.l.boff, .int .i64 P.l.bohm, .int .i64 P.g, .int .i64 P.d, .int .i64 P.y, .slice X.B1 X.m1 X.d1, .slice X.B2 X.m2 X.d2, .slice X.B3 X.m3 X.d3, .int .i64 P.wi, .int .i64 P.sw] 35 (g := w.heap.size) rfl HB (by have := HB.size; omega)
  have Qrc : Hid (w.heap.size ≤ w.heap.size) := Lib.hid (by have := HB.size; omega)
  replace HB := hb
  clear hb
  obtain ⟨w2, eW2, sW2, rs, hb⟩ := box w1 #[.int .i64 s.fd, .int .i64 s.fq, .int .i64 s.v, .bool s.b, .int .i64 s.po, .int .i64 s.sp, .slice YA yn yc, .int .i64 s.tn] 45 (g := w.heap.size + 1) sW1 HB (by have := HB.size; omega)
  have Qrs : Hid (w.heap.size ≤ w.heap.size + 1 ∧ w.heap.size < w.heap.size + 1) := Lib.hid ⟨by have := HB.size; omega, by have := rc.lt; omega⟩
  replace rc := rc.al eW2
  replace HB := hb
  clear hb
  obtain ⟨w3, eW3, sW3, ri, hb⟩ := box w2 #[.int .i64 z.per, .bool z.b0, .bool z.b1, .bool z.b2, .bool z.b3, .bool z.b4, .bool z.b5, .slice GA gn gc, .int .i64 z.ld, .int .i64 z.amb, .bool z.k0, .bool z.k1, .bool z.k2, .bool z.k3, .bool z.k4, .bool z.k5, .bool z.de, .bool z.nb] 51 (g := w.heap.size + 1 + 1) sW2 HB (by have := HB.size; omega)
  have Qri : Hid (w.heap.size ≤ w.heap.size + 1 + 1 ∧ w.heap.size < w.heap.size + 1 + 1 ∧ w.heap.size + 1 < w.heap.size + 1 + 1) := Lib.hid ⟨by have := HB.size; omega, by have := rc.lt; omega, by have := rs.lt; omega⟩
  replace rc := rc.al eW3
  replace rs := rs.al eW3
  replace HB := hb
  clear hb
  go_enter Try.func6, Try.ntmps6
  go_wp2_with fail
  with_reducible refine (awakeP_walk _).mono ?_
  rintro e w4 ⟨rfl, hb⟩
  replace rc := rc.below hb rc.lt
  replace rs := rs.below hb rs.lt
  replace ri := ri.below hb ri.lt
  replace HB := HB.trans (hb.mono HB.size)
  clear hb
  clear eW1 sW1 eW2 sW2 eW3 sW3
  go_wp2_with (first | (refine wpList_load_row rfl 35 _ rfl (w.heap.size) rfl _ _ _ _ rc Try.underlying35 rfl (by kernel_rfl) ?_) | (refine wpList_load_rowG 35 _ rfl (by go_simp) (w.heap.size) rfl _ _ _ _ rc Try.underlying35 rfl (by kernel_rfl) ?_) | (refine wpList_load_row rfl 45 _ rfl (w.heap.size + 1) rfl _ _ _ _ rs Try.underlying45 rfl (by kernel_rfl) ?_) | (refine wpList_load_rowG 45 _ rfl (by go_simp) (w.heap.size + 1) rfl _ _ _ _ rs Try.underlying45 rfl (by kernel_rfl) ?_) | (refine wpList_load_row rfl 51 _ rfl (w.heap.size + 1 + 1) rfl _ _ _ _ ri Try.underlying51 rfl (by kernel_rfl) ?_) | (refine wpList_load_rowG 51 _ rfl (by go_simp) (w.heap.size + 1 + 1) rfl _ _ _ _ ri Try.underlying51 rfl (by kernel_rfl) ?_))
  with_reducible refine ((unhide KL) _).mono ?_
  rintro e w5 ⟨rfl, hb⟩
  replace rc := rc.below hb rc.lt
  replace rs := rs.below hb rs.lt
  replace ri := ri.below hb ri.lt
  replace HB := HB.trans (hb.mono HB.size)
  clear hb
  have rsc7 := rs.cell 7
  have fr7 := rs.frozen 7
  have qrc := Qrc.out
  have qrs := Qrs.out
  have qri := Qri.out
  have nrc : ¬ w.heap.size = w.heap.size + 1 := by omega
  have mrc : ¬ w.heap.size + 1 = w.heap.size := by omega
  have nri : ¬ w.heap.size + 1 + 1 = w.heap.size + 1 := by omega
  have mri : ¬ w.heap.size + 1 = w.heap.size + 1 + 1 := by omega
  clear qrc qrs qri
  go_upto_region 4 with ((first | (go_at_call 15; (with_reducible refine ((unhide Q1) _).mono ?_); rintro e w' ⟨rfl, rfl⟩)))
  have qrc := Qrc.out
  have qrs := Qrs.out
  have qri := Qri.out
  obtain ⟨w6, hw⟩ : ∃ W, (w5.setCell ⟨w.heap.size + 1, 7, none⟩ (.int .i64 T)) = W := ⟨_, rfl⟩
  replace rc : Blk w6 (w.heap.size) 35 #[.int .i64 P.m.r, .int .i64 P.m.m, .slice X.A1 X.n1 X.c1, .slice X.A2 X.n2 X.c2, .slice X.A3 X.n3 X.c3, .slice X.A4 X.n4 X.c4, .int .i64 P.m.p, .int .i64 P.m.s, .int .i64 P.m.f, .int .i64 P.l.num, .int .i64 P.l.den, .int .i64 P.l.sup, .int .i64 P.l.fed, .int .i64 P.l.ohm, .int .i64 P.l.bon, .int .i64 P.l.boff, .int .i64 P.l.bohm, .int .i64 P.g, .int .i64 P.d, .int .i64 P.y, .slice X.B1 X.m1 X.d1, .slice X.B2 X.m2 X.d2, .slice X.B3 X.m3 X.d3, .int .i64 P.wi, .int .i64 P.sw] := hw ▸ (rc.far (by simp <;> omega) _)
  replace rs : Blk w6 (w.heap.size + 1) 45 #[.int .i64 s.fd, .int .i64 s.fq, .int .i64 s.v, .bool s.b, .int .i64 s.po, .int .i64 s.sp, .slice YA yn yc, .int .i64 T] := hw ▸ (rs.set_ 7 _)
  replace ri : Blk w6 (w.heap.size + 1 + 1) 51 #[.int .i64 z.per, .bool z.b0, .bool z.b1, .bool z.b2, .bool z.b3, .bool z.b4, .bool z.b5, .slice GA gn gc, .int .i64 z.ld, .int .i64 z.amb, .bool z.k0, .bool z.k1, .bool z.k2, .bool z.k3, .bool z.k4, .bool z.k5, .bool z.de, .bool z.nb] := hw ▸ (ri.far (by simp <;> omega) _)
  replace HB : Below w.heap.size w w6 := hw ▸ (HB.setCell (by simp <;> omega) _)
  simp only [hw]
  clear hw
  clear rsc7 fr7 nrc mrc nri mri qrc qrs qri
  go_wp2_with (first | (refine wpList_load_row rfl 35 _ rfl (w.heap.size) rfl _ _ _ _ rc Try.underlying35 rfl (by kernel_rfl) ?_) | (refine wpList_load_row rfl 45 _ rfl (w.heap.size + 1) rfl _ _ _ _ rs Try.underlying45 rfl (by kernel_rfl) ?_) | (refine wpList_load_row rfl 51 _ rfl (w.heap.size + 1 + 1) rfl _ _ _ _ ri Try.underlying51 rfl (by kernel_rfl) ?_))
  with_reducible refine ((unhide K2) _ ((L.below HB).more HB.size) ((SY.below HB).more HB.size) ((SG.below HB).more HB.size)).mono ?_
  rintro e w7 ⟨⟨A, ca, rfl, SA, fA⟩, hb⟩
  replace rc := rc.below hb rc.lt
  replace rs := rs.below hb rs.lt
  replace ri := ri.below hb ri.lt
  replace HB := HB.trans (hb.mono HB.size)
  clear hb
  clear fA SA
  obtain ⟨w8, eW8, sW8, rt, hb⟩ := box w7 #[.int .i64 0, .int .i64 0, .int .i64 0, .bool false, .int .i64 0, .int .i64 0, .slice none 0 0, .int .i64 0] 45 (g := w7.heap.size) rfl HB (by have := HB.size; omega)
  have Qrt : Hid (w.heap.size ≤ w7.heap.size ∧ w.heap.size < w7.heap.size ∧ w.heap.size + 1 < w7.heap.size ∧ w.heap.size + 1 + 1 < w7.heap.size) := Lib.hid ⟨by have := HB.size; omega, by have := rc.lt; omega, by have := rs.lt; omega, by have := ri.lt; omega⟩
  replace rc := rc.al eW8
  replace rs := rs.al eW8
  replace ri := ri.al eW8
  replace HB := hb
  clear hb
  have qrc := Qrc.out
  have qrs := Qrs.out
  have qri := Qri.out
  have qrt := Qrt.out
  have rto8 := rt
  obtain ⟨w9, eW9, sW9, hr, hb⟩ := rowX rt #[.int .i64 nx.fd, .int .i64 nx.fq, .int .i64 nx.v, .bool nx.b, .int .i64 nx.po, .int .i64 nx.sp, .slice A 3 ca, .int .i64 nx.tn] (n := w7.heap.size + 1) sW8 HB (by omega)
  replace rc := rc.rowTo eW9 (by omega)
  replace rs := rs.rowTo eW9 (by omega)
  replace ri := ri.rowTo eW9 (by omega)
  replace rt := hr
  replace HB := hb
  clear hb hr qrc qrs qri qrt
  have rcc0 := rc.cell 0
  have rcc1 := rc.cell 1
  have rcc2 := rc.cell 2
  have rcc3 := rc.cell 3
  have rcc4 := rc.cell 4
  have rcc5 := rc.cell 5
  have rcc6 := rc.cell 6
  have rcc7 := rc.cell 7
  have rcc8 := rc.cell 8
  have rsc0 := rs.cell 0
  have rsc1 := rs.cell 1
  go_wp2_with (first | (refine wpList_store_row rfl 45 _ _ rfl (w7.heap.size) #[.int .i64 nx.fd, .int .i64 nx.fq, .int .i64 nx.v, .bool nx.b, .int .i64 nx.po, .int .i64 nx.sp, .slice A 3 ca, .int .i64 nx.tn] rfl rfl _ _ rto8 (by kernel_rfl) (by kernel_rfl) (by kernel_rfl) ?_))
  with_reducible refine ((unhide K4) _ ((L.below HB).more HB.size)).mono ?_
  rintro e w10 ⟨rfl, hb⟩
  replace rc := rc.below hb rc.lt
  replace rs := rs.below hb rs.lt
  replace ri := ri.below hb ri.lt
  replace rt := rt.below hb rt.lt
  replace HB := HB.trans (hb.mono HB.size)
  clear hb
  clear rto8 rcc0 rcc1 rcc2 rcc3 rcc4 rcc5 rcc6 rcc7 rcc8 rsc0 rsc1 eW8 sW8 eW9 sW9
  obtain ⟨w11, eW11, sW11, d1, hb⟩ := box w10 #[.int .i64 0, .int .i64 0] 37 (g := w10.heap.size) rfl HB (by have := HB.size; omega)
  have Qd1 : Hid (w.heap.size ≤ w10.heap.size ∧ w.heap.size < w10.heap.size ∧ w.heap.size + 1 < w10.heap.size ∧ w.heap.size + 1 + 1 < w10.heap.size ∧ w7.heap.size < w10.heap.size) := Lib.hid ⟨by have := HB.size; omega, by have := rc.lt; omega, by have := rs.lt; omega, by have := ri.lt; omega, by have := rt.lt; omega⟩
  replace rc := rc.al eW11
  replace rs := rs.al eW11
  replace ri := ri.al eW11
  replace rt := rt.al eW11
  replace HB := hb
  clear hb
  have qrc := Qrc.out
  have qrs := Qrs.out
  have qri := Qri.out
  have qrt := Qrt.out
  have qd1 := Qd1.out
  have d1o11 := d1
  obtain ⟨w12, eW12, sW12, hr, hb⟩ := rowX d1 #[.int .i64 i1, .int .i64 i2] (n := w10.heap.size + 1) sW11 HB (by omega)
  replace rc := rc.rowTo eW12 (by omega)
  replace rs := rs.rowTo eW12 (by omega)
  replace ri := ri.rowTo eW12 (by omega)
  replace rt := rt.rowTo eW12 (by omega)
  replace d1 := hr
  replace HB := hb
  clear hb hr qrc qrs qri qrt qd1
  have rcc0 := rc.cell 0
  have rcc1 := rc.cell 1
  have rcc2 := rc.cell 2
  have rcc3 := rc.cell 3
  have rcc4 := rc.cell 4
  have rcc5 := rc.cell 5
  have rcc6 := rc.cell 6
  have rcc7 := rc.cell 7
  have rcc8 := rc.cell 8
  have rtc0 := rt.cell 0
  have rtc1 := rt.cell 1
  go_wp2_with (first | (refine wpList_store_row rfl 37 _ _ rfl (w10.heap.size) #[.int .i64 i1, .int .i64 i2] rfl rfl _ _ d1o11 (by kernel_rfl) (by kernel_rfl) (by kernel_rfl) ?_))
  with_reducible refine ((unhide K5) _ ((L.below HB).more HB.size)).mono ?_
  rintro e w13 ⟨rfl, hb⟩
  replace rc := rc.below hb rc.lt
  replace rs := rs.below hb rs.lt
  replace ri := ri.below hb ri.lt
  replace rt := rt.below hb rt.lt
  replace d1 := d1.below hb d1.lt
  replace HB := HB.trans (hb.mono HB.size)
  clear hb
  clear d1o11 rcc0 rcc1 rcc2 rcc3 rcc4 rcc5 rcc6 rcc7 rcc8 rtc0 rtc1 eW11 sW11 eW12 sW12
  obtain ⟨w14, eW14, sW14, d2, hb⟩ := box w13 #[.int .i64 0, .int .i64 0] 37 (g := w13.heap.size) rfl HB (by have := HB.size; omega)
  have Qd2 : Hid (w.heap.size ≤ w13.heap.size ∧ w.heap.size < w13.heap.size ∧ w.heap.size + 1 < w13.heap.size ∧ w.heap.size + 1 + 1 < w13.heap.size ∧ w7.heap.size < w13.heap.size ∧ w10.heap.size < w13.heap.size) := Lib.hid ⟨by have := HB.size; omega, by have := rc.lt; omega, by have := rs.lt; omega, by have := ri.lt; omega, by have := rt.lt; omega, by have := d1.lt; omega⟩
  replace rc := rc.al eW14
  replace rs := rs.al eW14
  replace ri := ri.al eW14
  replace rt := rt.al eW14
  replace d1 := d1.al eW14
  replace HB := hb
  clear hb
  have qrc := Qrc.out
  have qrs := Qrs.out
  have qri := Qri.out
  have qrt := Qrt.out
  have qd1 := Qd1.out
  have qd2 := Qd2.out
  have d2o14 := d2
  obtain ⟨w15, eW15, sW15, hr, hb⟩ := rowX d2 #[.int .i64 j1, .int .i64 j2] (n := w13.heap.size + 1) sW14 HB (by omega)
  replace rc := rc.rowTo eW15 (by omega)
  replace rs := rs.rowTo eW15 (by omega)
  replace ri := ri.rowTo eW15 (by omega)
  replace rt := rt.rowTo eW15 (by omega)
  replace d1 := d1.rowTo eW15 (by omega)
  replace d2 := hr
  replace HB := hb
  clear hb hr qrc qrs qri qrt qd1 qd2
  go_wp2_with (first | (refine wpList_store_row rfl 37 _ _ rfl (w13.heap.size) #[.int .i64 j1, .int .i64 j2] rfl rfl _ _ d2o14 (by kernel_rfl) (by kernel_rfl) (by kernel_rfl) ?_))
  clear d2o14 eW14 sW14 eW15 sW15
  obtain ⟨w16, hw, sw⟩ := drewX w15
  replace rc : Blk w16 (w.heap.size) 35 #[.int .i64 P.m.r, .int .i64 P.m.m, .slice X.A1 X.n1 X.c1, .slice X.A2 X.n2 X.c2, .slice X.A3 X.n3 X.c3, .slice X.A4 X.n4 X.c4, .int .i64 P.m.p, .int .i64 P.m.s, .int .i64 P.m.f, .int .i64 P.l.num, .int .i64 P.l.den, .int .i64 P.l.sup, .int .i64 P.l.fed, .int .i64 P.l.ohm, .int .i64 P.l.bon, .int .i64 P.l.boff, .int .i64 P.l.bohm, .int .i64 P.g, .int .i64 P.d, .int .i64 P.y, .slice X.B1 X.m1 X.d1, .slice X.B2 X.m2 X.d2, .slice X.B3 X.m3 X.d3, .int .i64 P.wi, .int .i64 P.sw] := hw ▸ rc.drew
  have zrc := rc.lt
  replace rs : Blk w16 (w.heap.size + 1) 45 #[.int .i64 s.fd, .int .i64 s.fq, .int .i64 s.v, .bool s.b, .int .i64 s.po, .int .i64 s.sp, .slice YA yn yc, .int .i64 T] := hw ▸ rs.drew
  have zrs := rs.lt
  replace ri : Blk w16 (w.heap.size + 1 + 1) 51 #[.int .i64 z.per, .bool z.b0, .bool z.b1, .bool z.b2, .bool z.b3, .bool z.b4, .bool z.b5, .slice GA gn gc, .int .i64 z.ld, .int .i64 z.amb, .bool z.k0, .bool z.k1, .bool z.k2, .bool z.k3, .bool z.k4, .bool z.k5, .bool z.de, .bool z.nb] := hw ▸ ri.drew
  have zri := ri.lt
  replace rt : Blk w16 (w7.heap.size) 45 #[.int .i64 nx.fd, .int .i64 nx.fq, .int .i64 nx.v, .bool nx.b, .int .i64 nx.po, .int .i64 nx.sp, .slice A 3 ca, .int .i64 nx.tn] := hw ▸ rt.drew
  have zrt := rt.lt
  replace d1 : Blk w16 (w10.heap.size) 37 #[.int .i64 i1, .int .i64 i2] := hw ▸ d1.drew
  have zd1 := d1.lt
  replace d2 : Blk w16 (w13.heap.size) 37 #[.int .i64 j1, .int .i64 j2] := hw ▸ d2.drew
  have zd2 := d2.lt
  replace HB : Below w.heap.size w w16 := hw ▸ HB.drew
  refine wp_region_multi (fun i => [13, 16, 20, 21].contains i) (fun i => [13, 16].contains i) w16.heap.size (by kernel_rfl) ?_
  change wpX _ _ _ _ _ _ _ _ _ _ w15.drew
  rw [hw]
  clear hw sw
  have HR := Below.refl w16.heap.size w16
  apply wpX_take (i := 0) rfl rfl (by kernel_rfl) (fun _ _ _ h => h)
  · intro w' hb
    unfold yv
    go_simp
    simp only [yvUpon]
    exact ⟨trivial, rfl⟩
  · go_simp
    exact rfl
  apply wpX_take (i := 1) rfl rfl (by kernel_rfl) (fun _ _ _ h => h)
  · intro w' hb
    have yrc0 := (rc.below hb zrc).cell 0
    have yrc1 := (rc.below hb zrc).cell 1
    have yrc2 := (rc.below hb zrc).cell 2
    have yrc3 := (rc.below hb zrc).cell 3
    have yrc4 := (rc.below hb zrc).cell 4
    have yrc5 := (rc.below hb zrc).cell 5
    have yrc6 := (rc.below hb zrc).cell 6
    have yrc7 := (rc.below hb zrc).cell 7
    have yrc8 := (rc.below hb zrc).cell 8
    unfold yv
    go_simp
    simp only [yvUpon]
    exact ⟨trivial, rfl⟩
  · go_simp
    exact rfl
  apply wpX_take (i := 2) rfl rfl (by kernel_rfl) (fun _ _ _ h => h)
  · intro w' hb
    unfold yv
    go_simp
    simp only [yvUpon]
    exact ⟨trivial, rfl⟩
  · go_simp
    exact rfl
  apply wpX_take (i := 3) rfl rfl (by kernel_rfl) (fun _ _ _ h => h)
  · intro w' hb
    unfold yv
    go_simp
    simp only [yvUpon]
    exact ⟨trivial, rfl⟩
  · go_simp
    exact rfl
  apply wpX_take (i := 4) rfl rfl (by kernel_rfl) (fun _ _ _ h => h)
  · intro w' hb
    have yrs2 := (rs.below hb zrs).cell 2
    unfold yv
    go_simp
    simp only [yvUpon]
    exact ⟨trivial, rfl⟩
  · go_simp
    exact rfl
  apply wpX_take (i := 5) rfl rfl (by kernel_rfl) (fun _ _ _ h => h)
  · intro w' hb
    unfold yv
    go_simp
    simp only [yvUpon]
    exact ⟨trivial, (unhide Q2) w'⟩
  · go_simp
    exact rfl
  apply wpX_take (i := 6) rfl rfl (by kernel_rfl) (fun _ _ _ h => h)
  · intro w' hb
    unfold yv
    go_simp
    simp only [yvUpon]
    exact ⟨trivial, rfl⟩
  · go_simp
    exact rfl
  apply wpX_take (i := 7) rfl rfl (by kernel_rfl) (fun _ _ _ h => h)
  · intro w' hb
    have yrs7 := (rs.below hb zrs).cell 7
    unfold yv
    go_simp
    simp only [yvUpon]
    exact ⟨trivial, rfl⟩
  · go_simp
    exact rfl
  apply wpX_take (i := 8) rfl rfl (by kernel_rfl) (fun _ _ _ h => h)
  · intro w' hb
    unfold yv
    go_simp
    simp only [yvUpon]
    exact ⟨trivial, rfl⟩
  · go_simp
    exact rfl
  apply wpX_take (i := 9) rfl rfl (by kernel_rfl) (fun _ _ _ h => h)
  · intro w' hb
    have yrs7 := (rs.below hb zrs).cell 7
    unfold yv
    go_simp
    simp only [yvUpon]
    exact ⟨trivial, rfl⟩
  · go_simp
    exact rfl
  apply wpX_take (i := 10) rfl rfl (by kernel_rfl) (fun _ _ _ h => h)
  · intro w' hb
    unfold yv
    go_simp
    simp only [yvUpon]
    exact ⟨trivial, rfl⟩
  · go_simp
    exact rfl
  apply wpX_take (i := 11) rfl rfl (by kernel_rfl) (fun _ _ _ h => h)
  · intro w' hb
    unfold yv
    go_simp
    simp only [yvUpon]
    exact ⟨trivial, rfl⟩
  · go_simp
    exact rfl
  apply wpX_take (i := 12) rfl rfl (by kernel_rfl) (fun _ _ _ h => h)
  · intro w' hb
    have yd10 := (d1.below hb zd1).cell 0
    have yd11 := (d1.below hb zd1).cell 1
    unfold yv
    go_simp
    simp only [yvUpon]
    exact ⟨trivial, rfl⟩
  · go_simp
    exact rfl
  apply wpX_one (i := 13) rfl rfl (by kernel_rfl)
  unfold mild
  go_simp
  simp only [mildUpon]
  refine ⟨trivial, ?_⟩
  with_reducible refine ((unhide S1) _).mono ?_
  rintro e w17 ⟨rfl, hb⟩
  refine ⟨_, rfl, hb.mono HR.size, ?_⟩
  replace rc := rc.below hb rc.lt
  replace rs := rs.below hb rs.lt
  replace ri := ri.below hb ri.lt
  replace rt := rt.below hb rt.lt
  replace d1 := d1.below hb d1.lt
  replace d2 := d2.below hb d2.lt
  replace HB := HB.trans (hb.mono HB.size)
  replace HR := HR.trans (hb.mono HR.size)
  clear hb
  apply wpX_take (i := 14) rfl rfl (by kernel_rfl) (fun _ _ _ h => h)
  · intro w' hb
    unfold yv
    go_simp
    simp only [yvUpon]
    exact ⟨trivial, (unhide Q3) w'⟩
  · go_simp
    exact rfl
  apply wpX_take (i := 15) rfl rfl (by kernel_rfl) (fun _ _ _ h => h)
  · intro w' hb
    unfold yv
    go_simp
    simp only [yvUpon]
    exact ⟨trivial, rfl⟩
  · go_simp
    exact rfl
  apply wpX_one (i := 16) rfl rfl (by kernel_rfl)
  unfold mild
  go_simp
  simp only [mildUpon]
  refine ⟨trivial, ?_⟩
  with_reducible refine ((unhide K6) _ ((L.below HB).more HB.size)).mono ?_
  rintro e w18 ⟨rfl, hb⟩
  refine ⟨_, rfl, hb.mono HR.size, ?_⟩
  replace rc := rc.below hb rc.lt
  replace rs := rs.below hb rs.lt
  replace ri := ri.below hb ri.lt
  replace rt := rt.below hb rt.lt
  replace d1 := d1.below hb d1.lt
  replace d2 := d2.below hb d2.lt
  replace HB := HB.trans (hb.mono HB.size)
  replace HR := HR.trans (hb.mono HR.size)
  clear hb
  apply wpX_take (i := 17) rfl rfl (by kernel_rfl) (fun _ _ _ h => h)
  · intro w' hb
    unfold yv
    go_simp
    simp only [yvUpon]
    exact ⟨trivial, rfl⟩
  · go_simp
    exact rfl
  apply wpX_take (i := 18) rfl rfl (by kernel_rfl) (fun _ _ _ h => h)
  · intro w' hb
    unfold yv
    go_simp
    simp only [yvUpon]
    exact ⟨trivial, rfl⟩
  · go_simp
    exact rfl
  apply wpX_take (i := 19) rfl rfl (by kernel_rfl) (fun _ _ _ h => h)
  · intro w' hb
    unfold yv
    go_simp
    simp only [yvUpon]
    exact ⟨trivial, rfl⟩
  · go_simp
    exact rfl
  refine wpX_rest (k := 20) (by kernel_rfl) ?_
  simp only [List.drop_succ_cons, List.drop_zero]
  go_wp2_with fail
  obtain ⟨w19, hw, sw⟩ := drewX w18
  replace rc : Blk w19 (w.heap.size) 35 #[.int .i64 P.m.r, .int .i64 P.m.m, .slice X.A1 X.n1 X.c1, .slice X.A2 X.n2 X.c2, .slice X.A3 X.n3 X.c3, .slice X.A4 X.n4 X.c4, .int .i64 P.m.p, .int .i64 P.m.s, .int .i64 P.m.f, .int .i64 P.l.num, .int .i64 P.l.den, .int .i64 P.l.sup, .int .i64 P.l.fed, .int .i64 P.l.ohm, .int .i64 P.l.bon, .int .i64 P.l.boff, .int .i64 P.l.bohm, .int .i64 P.g, .int .i64 P.d, .int .i64 P.y, .slice X.B1 X.m1 X.d1, .slice X.B2 X.m2 X.d2, .slice X.B3 X.m3 X.d3, .int .i64 P.wi, .int .i64 P.sw] := hw ▸ rc.drew
  have zrc := rc.lt
  replace rs : Blk w19 (w.heap.size + 1) 45 #[.int .i64 s.fd, .int .i64 s.fq, .int .i64 s.v, .bool s.b, .int .i64 s.po, .int .i64 s.sp, .slice YA yn yc, .int .i64 T] := hw ▸ rs.drew
  have zrs := rs.lt
  replace ri : Blk w19 (w.heap.size + 1 + 1) 51 #[.int .i64 z.per, .bool z.b0, .bool z.b1, .bool z.b2, .bool z.b3, .bool z.b4, .bool z.b5, .slice GA gn gc, .int .i64 z.ld, .int .i64 z.amb, .bool z.k0, .bool z.k1, .bool z.k2, .bool z.k3, .bool z.k4, .bool z.k5, .bool z.de, .bool z.nb] := hw ▸ ri.drew
  have zri := ri.lt
  replace rt : Blk w19 (w7.heap.size) 45 #[.int .i64 nx.fd, .int .i64 nx.fq, .int .i64 nx.v, .bool nx.b, .int .i64 nx.po, .int .i64 nx.sp, .slice A 3 ca, .int .i64 nx.tn] := hw ▸ rt.drew
  have zrt := rt.lt
  replace d1 : Blk w19 (w10.heap.size) 37 #[.int .i64 i1, .int .i64 i2] := hw ▸ d1.drew
  have zd1 := d1.lt
  replace d2 : Blk w19 (w13.heap.size) 37 #[.int .i64 j1, .int .i64 j2] := hw ▸ d2.drew
  have zd2 := d2.lt
  replace HB : Below w.heap.size w w19 := hw ▸ HB.drew
  refine wp_region_multi (fun i => [11, 20, 21].contains i) (fun i => [11].contains i) w19.heap.size (by kernel_rfl) ?_
  change wpX _ _ _ _ _ _ _ _ _ _ w18.drew
  rw [hw]
  clear hw sw
  have HR := Below.refl w19.heap.size w19
  apply wpX_take (i := 0) rfl rfl (by kernel_rfl) (fun _ _ _ h => h)
  · intro w' hb
    unfold yv
    go_simp
    simp only [yvUpon]
    exact ⟨trivial, rfl⟩
  · go_simp
    exact rfl
  apply wpX_take (i := 1) rfl rfl (by kernel_rfl) (fun _ _ _ h => h)
  · intro w' hb
    have yd20 := (d2.below hb zd2).cell 0
    unfold yv
    go_simp
    simp only [yvUpon]
    exact ⟨trivial, rfl⟩
  · go_simp
    exact rfl
  apply wpX_take (i := 2) rfl rfl (by kernel_rfl) (fun _ _ _ h => h)
  · intro w' hb
    unfold yv
    go_simp
    simp only [yvUpon]
    exact ⟨trivial, rfl⟩
  · go_simp
    exact rfl
  apply wpX_take (i := 3) rfl rfl (by kernel_rfl) (fun _ _ _ h => h)
  · intro w' hb
    have yd10 := (d1.below hb zd1).cell 0
    unfold yv
    go_simp
    simp only [yvUpon]
    exact ⟨trivial, rfl⟩
  · go_simp
    exact rfl
  apply wpX_take (i := 4) rfl rfl (by kernel_rfl) (fun _ _ _ h => h)
  · intro w' hb
    unfold yv
    go_simp
    simp only [yvUpon]
    exact ⟨trivial, rfl⟩
  · go_simp
    exact rfl
  apply wpX_take (i := 5) rfl rfl (by kernel_rfl) (fun _ _ _ h => h)
  · intro w' hb
    unfold yv
    go_simp
    simp only [yvUpon]
    exact ⟨trivial, rfl⟩
  · go_simp
    exact rfl
  apply wpX_take (i := 6) rfl rfl (by kernel_rfl) (fun _ _ _ h => h)
  · intro w' hb
    have yd21 := (d2.below hb zd2).cell 1
    unfold yv
    go_simp
    simp only [yvUpon]
    exact ⟨trivial, rfl⟩
  · go_simp
    exact rfl
  apply wpX_take (i := 7) rfl rfl (by kernel_rfl) (fun _ _ _ h => h)
  · intro w' hb
    unfold yv
    go_simp
    simp only [yvUpon]
    exact ⟨trivial, rfl⟩
  · go_simp
    exact rfl
  apply wpX_take (i := 8) rfl rfl (by kernel_rfl) (fun _ _ _ h => h)
  · intro w' hb
    have yd11 := (d1.below hb zd1).cell 1
    unfold yv
    go_simp
    simp only [yvUpon]
    exact ⟨trivial, rfl⟩
  · go_simp
    exact rfl
  apply wpX_take (i := 9) rfl rfl (by kernel_rfl) (fun _ _ _ h => h)
  · intro w' hb
    unfold yv
    go_simp
    simp only [yvUpon]
    exact ⟨trivial, rfl⟩
  · go_simp
    exact rfl
  apply wpX_take (i := 10) rfl rfl (by kernel_rfl) (fun _ _ _ h => h)
  · intro w' hb
    unfold yv
    go_simp
    simp only [yvUpon]
    exact ⟨trivial, rfl⟩
  · go_simp
    exact rfl
  apply wpX_take (i := 12) rfl rfl (by kernel_rfl) (fun _ _ _ h => h)
  · intro w' hb
    unfold yv
    go_simp
    simp only [yvUpon]
    exact ⟨trivial, rfl⟩
  · go_simp
    exact rfl
  apply wpX_one (i := 11) rfl rfl (by kernel_rfl)
  unfold mild
  go_simp
  simp only [mildUpon]
  refine ⟨trivial, ?_⟩
  with_reducible refine ((unhide S2) _).mono ?_
  rintro e w20 ⟨rfl, hb⟩
  refine ⟨_, rfl, hb.mono HR.size, ?_⟩
  replace rc := rc.below hb rc.lt
  replace rs := rs.below hb rs.lt
  replace ri := ri.below hb ri.lt
  replace rt := rt.below hb rt.lt
  replace d1 := d1.below hb d1.lt
  replace d2 := d2.below hb d2.lt
  replace HB := HB.trans (hb.mono HB.size)
  replace HR := HR.trans (hb.mono HR.size)
  clear hb
  apply wpX_take (i := 13) rfl rfl (by kernel_rfl) (fun _ _ _ h => h)
  · intro w' hb
    unfold yv
    go_simp
    simp only [yvUpon]
    exact ⟨trivial, rfl⟩
  · go_simp
    exact rfl
  apply wpX_take (i := 14) rfl rfl (by kernel_rfl) (fun _ _ _ h => h)
  · intro w' hb
    unfold yv
    go_simp
    simp only [yvUpon]
    exact ⟨trivial, rfl⟩
  · go_simp
    exact rfl
  apply wpX_skip (i := 15) rfl (by go_simp) (by kernel_rfl) (fun _ _ _ h => h)
  · go_simp
    exact rfl
  apply wpX_skip (i := 16) rfl (by go_simp) (by kernel_rfl) (fun _ _ _ h => h)
  · go_simp
    exact rfl
  apply wpX_skip (i := 17) rfl (by go_simp) (by kernel_rfl) (fun _ _ _ h => h)
  · go_simp
    exact rfl
  apply wpX_skip (i := 18) rfl (by go_simp) (by kernel_rfl) (fun _ _ _ h => h)
  · go_simp
    exact rfl
  apply wpX_skip (i := 19) rfl (by go_simp) (by kernel_rfl) (fun _ _ _ h => h)
  · go_simp
    exact rfl
  refine wpX_rest (k := 20) (by kernel_rfl) ?_
  simp only [List.drop_succ_cons, List.drop_zero]
  go_wp2
  go_ret
  exact ⟨rfl, HB⟩
set_option maxRecDepth 100000 in
set_option maxHeartbeats 6400000 in
theorem prises_okb (P : Pc) (X : Pa) (s : Ps) (YA : Option Addr) (yn yc : Nat) (z : Pi) (GA : Option Addr) (gn gc : Nat) (w : World) (L : Py w w.heap.size P X) (SY : Sl w w.heap.size 1 YA (rows s.h)) (ey : yn = s.h.length) (SG : Sl w w.heap.size 3 GA (z.es.map I.Ed.row)) (eg : gn = z.es.length) (hl : lgP X yn gn = false) (hc : stCode P (sTn s) z = 0) (hz : ¬ szI (curD P.m (pxS P (sTn s) z).fd - curD P.m s.fd) (curQ P.m (pxS P (sTn s) z).fq - curQ P.m s.fq) ≤ riI P.m (clipI s.v 0 1048576) (max (clipI s.tn (-16384) 16384) (-(clipI s.tn (-16384) 16384))) (szI (curD P.m s.fd) (curQ P.m s.fq))) (hy : szI (curD P.m (pxS P (sTn s) z).fd) (curQ P.m (pxS P (sTn s) z).fq) ≤ szI (curD P.m s.fd) (curQ P.m s.fq)) :
    Calls Try.prog 6 #[.agg #[.int .i64 P.m.r, .int .i64 P.m.m, .slice X.A1 X.n1 X.c1, .slice X.A2 X.n2 X.c2, .slice X.A3 X.n3 X.c3, .slice X.A4 X.n4 X.c4, .int .i64 P.m.p, .int .i64 P.m.s, .int .i64 P.m.f, .int .i64 P.l.num, .int .i64 P.l.den, .int .i64 P.l.sup, .int .i64 P.l.fed, .int .i64 P.l.ohm, .int .i64 P.l.bon, .int .i64 P.l.boff, .int .i64 P.l.bohm, .int .i64 P.g, .int .i64 P.d, .int .i64 P.y, .slice X.B1 X.m1 X.d1, .slice X.B2 X.m2 X.d2, .slice X.B3 X.m3 X.d3, .int .i64 P.wi, .int .i64 P.sw], .agg #[.int .i64 s.fd, .int .i64 s.fq, .int .i64 s.v, .bool s.b, .int .i64 s.po, .int .i64 s.sp, .slice YA yn yc, .int .i64 s.tn], .agg #[.int .i64 z.per, .bool z.b0, .bool z.b1, .bool z.b2, .bool z.b3, .bool z.b4, .bool z.b5, .slice GA gn gc, .int .i64 z.ld, .int .i64 z.amb, .bool z.k0, .bool z.k1, .bool z.k2, .bool z.k3, .bool z.k4, .bool z.k5, .bool z.de, .bool z.nb]] w fun e w' => e = .returned (.bool true) ∧ Below w.heap.size w w' := by
  have kl := fun W => large_walkP P X s YA yn yc z GA gn gc W
  simp only [hl] at kl
  have KL := hide kl
  clear kl
  obtain ⟨hp, hi⟩ := st_ok hc
  have okm := cf_ok (pl_ok hp).m
  have gm : gn ≤ 1000000 := by have := lgP_gn hl; omega
  have bV := clipI_in s.v 0 1048576 (by omega)
  have bT := clipI_in s.tn (-16384) 16384 (by omega)
  have b1 := curD_bd okm s.fd
  have b2 := curQ_bd okm s.fq
  have b3 := curD_bd okm (pxS P (sTn s) z).fd
  have b4 := curQ_bd okm (pxS P (sTn s) z).fq
  have k2 := fun (W : World) (h : Py W W.heap.size P X) (hy : Sl W W.heap.size 1 YA (rows s.h)) (hg : Sl W W.heap.size 3 GA (z.es.map I.Ed.row)) => pstepM_k P X (sTn s) YA yn yc z GA gn gc W h hy ey hg eg gm hc
  obtain ⟨nx, hnx⟩ : ∃ x, pxS P (sTn s) z = x := ⟨_, rfl⟩
  simp only [hnx] at k2
  rw [hnx] at hz b3 b4 hy
  dsimp only [sTn] at k2
  have q1 := fun W => clipB s.tn (-16384) 16384 (by omega) W
  have q2 := fun W => clipB_q s.v 0 1048576 (by omega) W
  obtain ⟨T, hT⟩ : ∃ x, clipI s.tn (-16384) 16384 = x := ⟨_, rfl⟩
  obtain ⟨V, hV⟩ : ∃ x, clipI s.v 0 1048576 = x := ⟨_, rfl⟩
  simp only [hT] at k2 q1
  simp only [hV] at q2
  rw [hT] at hz bT
  rw [hV] at hz bV
  have k4 := fun (W : World) (h : Py W W.heap.size P X) => gcurM P X s.fd s.fq W h (pl_ok hp).m
  have k5 := fun (W : World) (h : Py W W.heap.size P X) => gcurM P X nx.fd nx.fq W h (pl_ok hp).m
  obtain ⟨i1, g1⟩ : ∃ x, curD P.m s.fd = x := ⟨_, rfl⟩
  obtain ⟨i2, g2⟩ : ∃ x, curQ P.m s.fq = x := ⟨_, rfl⟩
  obtain ⟨j1, g3⟩ : ∃ x, curD P.m nx.fd = x := ⟨_, rfl⟩
  obtain ⟨j2, g4⟩ : ∃ x, curQ P.m nx.fq = x := ⟨_, rfl⟩
  simp only [g1, g2] at k4
  simp only [g3, g4] at k5
  rw [g1] at b1
  rw [g2] at b2
  rw [g3] at b3
  rw [g4] at b4
  rw [g1, g2, g3, g4] at hz
  rw [g1, g2, g3, g4] at hy
  obtain ⟨M, hM⟩ : ∃ x, max T (-T) = x := ⟨_, rfl⟩
  rw [hM] at hz
  have bM : 0 ≤ M ∧ M ≤ 16384 := by omega
  have hsz : szI i1 i2 = max (max (max i1 (-i1)) i2) (-i2) := rfl
  obtain ⟨SI, hSI⟩ : ∃ x, szI i1 i2 = x := ⟨_, rfl⟩
  rw [hSI] at hsz hz hy
  have bS : 0 ≤ SI ∧ SI ≤ 1048576 := by omega
  have hCC : clipI SI 0 1048576 = SI := by unfold clipI; rw [if_neg (by omega), if_neg (by omega)]
  have q3 := fun W => clipB_q SI 0 1048576 (by omega) W
  simp only [hCC] at q3
  have hbd : bdCode V M SI = 0 := by unfold bdCode; rw [if_pos ⟨wiB_iff.2 (by omega), wiB_iff.2 (by omega), wiB_iff.2 (by omega)⟩]
  have k6 := fun (W : World) (h : Py W W.heap.size P X) => griseM P X V M SI W h (pl_ok hp).m hbd
  obtain ⟨R, hR⟩ : ∃ x, riI P.m V M SI = x := ⟨_, rfl⟩
  rw [hR] at hz
  simp only [hR] at k6
  have s1 := fun W => psize_walk i1 i2 (by omega) (by omega) W
  have s2 := fun W => psize_walk (j1 - i1) (j2 - i2) (by omega) (by omega) W
  have s3 := fun W => psize_walk j1 j2 (by omega) (by omega) W
  simp only [hSI] at s1
  obtain ⟨Z, hZ⟩ : ∃ z, szI (j1 - i1) (j2 - i2) = z := ⟨_, rfl⟩
  obtain ⟨SJ, hSJ⟩ : ∃ z, szI j1 j2 = z := ⟨_, rfl⟩
  simp only [hZ] at s2
  simp only [hSJ] at s3
  rw [hZ] at hz
  rw [hSJ] at hy
  have e1 : wrap64 (-T) = -T := by unfold wrap64; omega
  have e1' : IntKind.i64.wrap (-T) = -T := IntWalk.i64_in _ (by omega)
  have hmm := hM
  have e2 : wrap64 (j1 - i1) = j1 - i1 := by unfold wrap64; omega
  have e2' : IntKind.i64.wrap (j1 - i1) = j1 - i1 := IntWalk.i64_in _ (by omega)
  have e3' : IntKind.i64.wrap (j2 - i2) = j2 - i2 := IntWalk.i64_in _ (by omega)
  have e3 : wrap64 (j2 - i2) = j2 - i2 := by unfold wrap64; omega
  have K2 := hide k2
  have K4 := hide k4
  have K5 := hide k5
  have K6 := hide k6
  have S1 := hide s1
  have S2 := hide s2
  have S3 := hide s3
  have Q1 := hide q1
  have Q2 := hide q2
  have Q3 := hide q3
  have hmx : ∀ (W : World) (ts : Array TypeId) (t : TypeId), (Builtin.max_ ts t #[.int .i64 T, .int .i64 (-T)]).run Try.prog W = .ok (.int .i64 M) W := fun W ts t => by rw [← hM]; exact run_max2' W ts t T (-T)
  clear k2 k4 k5 k6 s1 s2 s3 q1 q2 q3 hM hZ hSJ hSI hsz hCC hbd hR g1 g2 g3 g4 b1 b2 b3 b4 bV bT bM bS hT hV hnx okm gm hp hi hl hc ey eg
  have HB := Below.refl w.heap.size w
  obtain ⟨w1, eW1, sW1, rc, hb⟩ := box w #[.int .i64 P.m.r, .int .i64 P.m.m, .slice X.A1 X.n1 X.c1, .slice X.A2 X.n2 X.c2, .slice X.A3 X.n3 X.c3, .slice X.A4 X.n4 X.c4, .int .i64 P.m.p, .int .i64 P.m.s, .int .i64 P.m.f, .int .i64 P.l.num, .int .i64 P.l.den, .int .i64 P.l.sup, .int .i64 P.l.fed, .int .i64 P.l.ohm, .int .i64 P.l.bon, .int .i64 P.l.boff, .int .i64 P.l.bohm, .int .i64 P.g, .int .i64 P.d, .int .i64 P.y, .slice X.B1 X.m1 X.d1, .slice X.B2 X.m2 X.d2, .slice X.B3 X.m3 X.d3, .int .i64 P.wi, .int .i64 P.sw] 35 (g := w.heap.size) rfl HB (by have := HB.size; omega)
  have Qrc : Hid (w.heap.size ≤ w.heap.size) := Lib.hid (by have := HB.size; omega)
  replace HB := hb
  clear hb
  obtain ⟨w2, eW2, sW2, rs, hb⟩ := box w1 #[.int .i64 s.fd, .int .i64 s.fq, .int .i64 s.v, .bool s.b, .int .i64 s.po, .int .i64 s.sp, .slice YA yn yc, .int .i64 s.tn] 45 (g := w.heap.size + 1) sW1 HB (by have := HB.size; omega)
  have Qrs : Hid (w.heap.size ≤ w.heap.size + 1 ∧ w.heap.size < w.heap.size + 1) := Lib.hid ⟨by have := HB.size; omega, by have := rc.lt; omega⟩
  replace rc := rc.al eW2
  replace HB := hb
  clear hb
  obtain ⟨w3, eW3, sW3, ri, hb⟩ := box w2 #[.int .i64 z.per, .bool z.b0, .bool z.b1, .bool z.b2, .bool z.b3, .bool z.b4, .bool z.b5, .slice GA gn gc, .int .i64 z.ld, .int .i64 z.amb, .bool z.k0, .bool z.k1, .bool z.k2, .bool z.k3, .bool z.k4, .bool z.k5, .bool z.de, .bool z.nb] 51 (g := w.heap.size + 1 + 1) sW2 HB (by have := HB.size; omega)
  have Qri : Hid (w.heap.size ≤ w.heap.size + 1 + 1 ∧ w.heap.size < w.heap.size + 1 + 1 ∧ w.heap.size + 1 < w.heap.size + 1 + 1) := Lib.hid ⟨by have := HB.size; omega, by have := rc.lt; omega, by have := rs.lt; omega⟩
  replace rc := rc.al eW3
  replace rs := rs.al eW3
  replace HB := hb
  clear hb
  go_enter Try.func6, Try.ntmps6
  go_wp2_with fail
  with_reducible refine (awakeP_walk _).mono ?_
  rintro e w4 ⟨rfl, hb⟩
  replace rc := rc.below hb rc.lt
  replace rs := rs.below hb rs.lt
  replace ri := ri.below hb ri.lt
  replace HB := HB.trans (hb.mono HB.size)
  clear hb
  clear eW1 sW1 eW2 sW2 eW3 sW3
  go_wp2_with (first | (refine wpList_load_row rfl 35 _ rfl (w.heap.size) rfl _ _ _ _ rc Try.underlying35 rfl (by kernel_rfl) ?_) | (refine wpList_load_rowG 35 _ rfl (by go_simp) (w.heap.size) rfl _ _ _ _ rc Try.underlying35 rfl (by kernel_rfl) ?_) | (refine wpList_load_row rfl 45 _ rfl (w.heap.size + 1) rfl _ _ _ _ rs Try.underlying45 rfl (by kernel_rfl) ?_) | (refine wpList_load_rowG 45 _ rfl (by go_simp) (w.heap.size + 1) rfl _ _ _ _ rs Try.underlying45 rfl (by kernel_rfl) ?_) | (refine wpList_load_row rfl 51 _ rfl (w.heap.size + 1 + 1) rfl _ _ _ _ ri Try.underlying51 rfl (by kernel_rfl) ?_) | (refine wpList_load_rowG 51 _ rfl (by go_simp) (w.heap.size + 1 + 1) rfl _ _ _ _ ri Try.underlying51 rfl (by kernel_rfl) ?_))
  with_reducible refine ((unhide KL) _).mono ?_
  rintro e w5 ⟨rfl, hb⟩
  replace rc := rc.below hb rc.lt
  replace rs := rs.below hb rs.lt
  replace ri := ri.below hb ri.lt
  replace HB := HB.trans (hb.mono HB.size)
  clear hb
  have rsc7 := rs.cell 7
  have fr7 := rs.frozen 7
  have qrc := Qrc.out
  have qrs := Qrs.out
  have qri := Qri.out
  have nrc : ¬ w.heap.size = w.heap.size + 1 := by omega
  have mrc : ¬ w.heap.size + 1 = w.heap.size := by omega
  have nri : ¬ w.heap.size + 1 + 1 = w.heap.size + 1 := by omega
  have mri : ¬ w.heap.size + 1 = w.heap.size + 1 + 1 := by omega
  clear qrc qrs qri
  go_upto_region 4 with ((first | (go_at_call 15; (with_reducible refine ((unhide Q1) _).mono ?_); rintro e w' ⟨rfl, rfl⟩)))
  have qrc := Qrc.out
  have qrs := Qrs.out
  have qri := Qri.out
  obtain ⟨w6, hw⟩ : ∃ W, (w5.setCell ⟨w.heap.size + 1, 7, none⟩ (.int .i64 T)) = W := ⟨_, rfl⟩
  replace rc : Blk w6 (w.heap.size) 35 #[.int .i64 P.m.r, .int .i64 P.m.m, .slice X.A1 X.n1 X.c1, .slice X.A2 X.n2 X.c2, .slice X.A3 X.n3 X.c3, .slice X.A4 X.n4 X.c4, .int .i64 P.m.p, .int .i64 P.m.s, .int .i64 P.m.f, .int .i64 P.l.num, .int .i64 P.l.den, .int .i64 P.l.sup, .int .i64 P.l.fed, .int .i64 P.l.ohm, .int .i64 P.l.bon, .int .i64 P.l.boff, .int .i64 P.l.bohm, .int .i64 P.g, .int .i64 P.d, .int .i64 P.y, .slice X.B1 X.m1 X.d1, .slice X.B2 X.m2 X.d2, .slice X.B3 X.m3 X.d3, .int .i64 P.wi, .int .i64 P.sw] := hw ▸ (rc.far (by simp <;> omega) _)
  replace rs : Blk w6 (w.heap.size + 1) 45 #[.int .i64 s.fd, .int .i64 s.fq, .int .i64 s.v, .bool s.b, .int .i64 s.po, .int .i64 s.sp, .slice YA yn yc, .int .i64 T] := hw ▸ (rs.set_ 7 _)
  replace ri : Blk w6 (w.heap.size + 1 + 1) 51 #[.int .i64 z.per, .bool z.b0, .bool z.b1, .bool z.b2, .bool z.b3, .bool z.b4, .bool z.b5, .slice GA gn gc, .int .i64 z.ld, .int .i64 z.amb, .bool z.k0, .bool z.k1, .bool z.k2, .bool z.k3, .bool z.k4, .bool z.k5, .bool z.de, .bool z.nb] := hw ▸ (ri.far (by simp <;> omega) _)
  replace HB : Below w.heap.size w w6 := hw ▸ (HB.setCell (by simp <;> omega) _)
  simp only [hw]
  clear hw
  clear rsc7 fr7 nrc mrc nri mri qrc qrs qri
  go_wp2_with (first | (refine wpList_load_row rfl 35 _ rfl (w.heap.size) rfl _ _ _ _ rc Try.underlying35 rfl (by kernel_rfl) ?_) | (refine wpList_load_row rfl 45 _ rfl (w.heap.size + 1) rfl _ _ _ _ rs Try.underlying45 rfl (by kernel_rfl) ?_) | (refine wpList_load_row rfl 51 _ rfl (w.heap.size + 1 + 1) rfl _ _ _ _ ri Try.underlying51 rfl (by kernel_rfl) ?_))
  with_reducible refine ((unhide K2) _ ((L.below HB).more HB.size) ((SY.below HB).more HB.size) ((SG.below HB).more HB.size)).mono ?_
  rintro e w7 ⟨⟨A, ca, rfl, SA, fA⟩, hb⟩
  replace rc := rc.below hb rc.lt
  replace rs := rs.below hb rs.lt
  replace ri := ri.below hb ri.lt
  replace HB := HB.trans (hb.mono HB.size)
  clear hb
  clear fA SA
  obtain ⟨w8, eW8, sW8, rt, hb⟩ := box w7 #[.int .i64 0, .int .i64 0, .int .i64 0, .bool false, .int .i64 0, .int .i64 0, .slice none 0 0, .int .i64 0] 45 (g := w7.heap.size) rfl HB (by have := HB.size; omega)
  have Qrt : Hid (w.heap.size ≤ w7.heap.size ∧ w.heap.size < w7.heap.size ∧ w.heap.size + 1 < w7.heap.size ∧ w.heap.size + 1 + 1 < w7.heap.size) := Lib.hid ⟨by have := HB.size; omega, by have := rc.lt; omega, by have := rs.lt; omega, by have := ri.lt; omega⟩
  replace rc := rc.al eW8
  replace rs := rs.al eW8
  replace ri := ri.al eW8
  replace HB := hb
  clear hb
  have qrc := Qrc.out
  have qrs := Qrs.out
  have qri := Qri.out
  have qrt := Qrt.out
  have rto8 := rt
  obtain ⟨w9, eW9, sW9, hr, hb⟩ := rowX rt #[.int .i64 nx.fd, .int .i64 nx.fq, .int .i64 nx.v, .bool nx.b, .int .i64 nx.po, .int .i64 nx.sp, .slice A 3 ca, .int .i64 nx.tn] (n := w7.heap.size + 1) sW8 HB (by omega)
  replace rc := rc.rowTo eW9 (by omega)
  replace rs := rs.rowTo eW9 (by omega)
  replace ri := ri.rowTo eW9 (by omega)
  replace rt := hr
  replace HB := hb
  clear hb hr qrc qrs qri qrt
  have rcc0 := rc.cell 0
  have rcc1 := rc.cell 1
  have rcc2 := rc.cell 2
  have rcc3 := rc.cell 3
  have rcc4 := rc.cell 4
  have rcc5 := rc.cell 5
  have rcc6 := rc.cell 6
  have rcc7 := rc.cell 7
  have rcc8 := rc.cell 8
  have rsc0 := rs.cell 0
  have rsc1 := rs.cell 1
  go_wp2_with (first | (refine wpList_store_row rfl 45 _ _ rfl (w7.heap.size) #[.int .i64 nx.fd, .int .i64 nx.fq, .int .i64 nx.v, .bool nx.b, .int .i64 nx.po, .int .i64 nx.sp, .slice A 3 ca, .int .i64 nx.tn] rfl rfl _ _ rto8 (by kernel_rfl) (by kernel_rfl) (by kernel_rfl) ?_))
  with_reducible refine ((unhide K4) _ ((L.below HB).more HB.size)).mono ?_
  rintro e w10 ⟨rfl, hb⟩
  replace rc := rc.below hb rc.lt
  replace rs := rs.below hb rs.lt
  replace ri := ri.below hb ri.lt
  replace rt := rt.below hb rt.lt
  replace HB := HB.trans (hb.mono HB.size)
  clear hb
  clear rto8 rcc0 rcc1 rcc2 rcc3 rcc4 rcc5 rcc6 rcc7 rcc8 rsc0 rsc1 eW8 sW8 eW9 sW9
  obtain ⟨w11, eW11, sW11, d1, hb⟩ := box w10 #[.int .i64 0, .int .i64 0] 37 (g := w10.heap.size) rfl HB (by have := HB.size; omega)
  have Qd1 : Hid (w.heap.size ≤ w10.heap.size ∧ w.heap.size < w10.heap.size ∧ w.heap.size + 1 < w10.heap.size ∧ w.heap.size + 1 + 1 < w10.heap.size ∧ w7.heap.size < w10.heap.size) := Lib.hid ⟨by have := HB.size; omega, by have := rc.lt; omega, by have := rs.lt; omega, by have := ri.lt; omega, by have := rt.lt; omega⟩
  replace rc := rc.al eW11
  replace rs := rs.al eW11
  replace ri := ri.al eW11
  replace rt := rt.al eW11
  replace HB := hb
  clear hb
  have qrc := Qrc.out
  have qrs := Qrs.out
  have qri := Qri.out
  have qrt := Qrt.out
  have qd1 := Qd1.out
  have d1o11 := d1
  obtain ⟨w12, eW12, sW12, hr, hb⟩ := rowX d1 #[.int .i64 i1, .int .i64 i2] (n := w10.heap.size + 1) sW11 HB (by omega)
  replace rc := rc.rowTo eW12 (by omega)
  replace rs := rs.rowTo eW12 (by omega)
  replace ri := ri.rowTo eW12 (by omega)
  replace rt := rt.rowTo eW12 (by omega)
  replace d1 := hr
  replace HB := hb
  clear hb hr qrc qrs qri qrt qd1
  have rcc0 := rc.cell 0
  have rcc1 := rc.cell 1
  have rcc2 := rc.cell 2
  have rcc3 := rc.cell 3
  have rcc4 := rc.cell 4
  have rcc5 := rc.cell 5
  have rcc6 := rc.cell 6
  have rcc7 := rc.cell 7
  have rcc8 := rc.cell 8
  have rtc0 := rt.cell 0
  have rtc1 := rt.cell 1
  go_wp2_with (first | (refine wpList_store_row rfl 37 _ _ rfl (w10.heap.size) #[.int .i64 i1, .int .i64 i2] rfl rfl _ _ d1o11 (by kernel_rfl) (by kernel_rfl) (by kernel_rfl) ?_))
  with_reducible refine ((unhide K5) _ ((L.below HB).more HB.size)).mono ?_
  rintro e w13 ⟨rfl, hb⟩
  replace rc := rc.below hb rc.lt
  replace rs := rs.below hb rs.lt
  replace ri := ri.below hb ri.lt
  replace rt := rt.below hb rt.lt
  replace d1 := d1.below hb d1.lt
  replace HB := HB.trans (hb.mono HB.size)
  clear hb
  clear d1o11 rcc0 rcc1 rcc2 rcc3 rcc4 rcc5 rcc6 rcc7 rcc8 rtc0 rtc1 eW11 sW11 eW12 sW12
  obtain ⟨w14, eW14, sW14, d2, hb⟩ := box w13 #[.int .i64 0, .int .i64 0] 37 (g := w13.heap.size) rfl HB (by have := HB.size; omega)
  have Qd2 : Hid (w.heap.size ≤ w13.heap.size ∧ w.heap.size < w13.heap.size ∧ w.heap.size + 1 < w13.heap.size ∧ w.heap.size + 1 + 1 < w13.heap.size ∧ w7.heap.size < w13.heap.size ∧ w10.heap.size < w13.heap.size) := Lib.hid ⟨by have := HB.size; omega, by have := rc.lt; omega, by have := rs.lt; omega, by have := ri.lt; omega, by have := rt.lt; omega, by have := d1.lt; omega⟩
  replace rc := rc.al eW14
  replace rs := rs.al eW14
  replace ri := ri.al eW14
  replace rt := rt.al eW14
  replace d1 := d1.al eW14
  replace HB := hb
  clear hb
  have qrc := Qrc.out
  have qrs := Qrs.out
  have qri := Qri.out
  have qrt := Qrt.out
  have qd1 := Qd1.out
  have qd2 := Qd2.out
  have d2o14 := d2
  obtain ⟨w15, eW15, sW15, hr, hb⟩ := rowX d2 #[.int .i64 j1, .int .i64 j2] (n := w13.heap.size + 1) sW14 HB (by omega)
  replace rc := rc.rowTo eW15 (by omega)
  replace rs := rs.rowTo eW15 (by omega)
  replace ri := ri.rowTo eW15 (by omega)
  replace rt := rt.rowTo eW15 (by omega)
  replace d1 := d1.rowTo eW15 (by omega)
  replace d2 := hr
  replace HB := hb
  clear hb hr qrc qrs qri qrt qd1 qd2
  go_wp2_with (first | (refine wpList_store_row rfl 37 _ _ rfl (w13.heap.size) #[.int .i64 j1, .int .i64 j2] rfl rfl _ _ d2o14 (by kernel_rfl) (by kernel_rfl) (by kernel_rfl) ?_))
  clear d2o14 eW14 sW14 eW15 sW15
  obtain ⟨w16, hw, sw⟩ := drewX w15
  replace rc : Blk w16 (w.heap.size) 35 #[.int .i64 P.m.r, .int .i64 P.m.m, .slice X.A1 X.n1 X.c1, .slice X.A2 X.n2 X.c2, .slice X.A3 X.n3 X.c3, .slice X.A4 X.n4 X.c4, .int .i64 P.m.p, .int .i64 P.m.s, .int .i64 P.m.f, .int .i64 P.l.num, .int .i64 P.l.den, .int .i64 P.l.sup, .int .i64 P.l.fed, .int .i64 P.l.ohm, .int .i64 P.l.bon, .int .i64 P.l.boff, .int .i64 P.l.bohm, .int .i64 P.g, .int .i64 P.d, .int .i64 P.y, .slice X.B1 X.m1 X.d1, .slice X.B2 X.m2 X.d2, .slice X.B3 X.m3 X.d3, .int .i64 P.wi, .int .i64 P.sw] := hw ▸ rc.drew
  have zrc := rc.lt
  replace rs : Blk w16 (w.heap.size + 1) 45 #[.int .i64 s.fd, .int .i64 s.fq, .int .i64 s.v, .bool s.b, .int .i64 s.po, .int .i64 s.sp, .slice YA yn yc, .int .i64 T] := hw ▸ rs.drew
  have zrs := rs.lt
  replace ri : Blk w16 (w.heap.size + 1 + 1) 51 #[.int .i64 z.per, .bool z.b0, .bool z.b1, .bool z.b2, .bool z.b3, .bool z.b4, .bool z.b5, .slice GA gn gc, .int .i64 z.ld, .int .i64 z.amb, .bool z.k0, .bool z.k1, .bool z.k2, .bool z.k3, .bool z.k4, .bool z.k5, .bool z.de, .bool z.nb] := hw ▸ ri.drew
  have zri := ri.lt
  replace rt : Blk w16 (w7.heap.size) 45 #[.int .i64 nx.fd, .int .i64 nx.fq, .int .i64 nx.v, .bool nx.b, .int .i64 nx.po, .int .i64 nx.sp, .slice A 3 ca, .int .i64 nx.tn] := hw ▸ rt.drew
  have zrt := rt.lt
  replace d1 : Blk w16 (w10.heap.size) 37 #[.int .i64 i1, .int .i64 i2] := hw ▸ d1.drew
  have zd1 := d1.lt
  replace d2 : Blk w16 (w13.heap.size) 37 #[.int .i64 j1, .int .i64 j2] := hw ▸ d2.drew
  have zd2 := d2.lt
  replace HB : Below w.heap.size w w16 := hw ▸ HB.drew
  refine wp_region_multi (fun i => [13, 16, 20, 21].contains i) (fun i => [13, 16].contains i) w16.heap.size (by kernel_rfl) ?_
  change wpX _ _ _ _ _ _ _ _ _ _ w15.drew
  rw [hw]
  clear hw sw
  have HR := Below.refl w16.heap.size w16
  apply wpX_take (i := 0) rfl rfl (by kernel_rfl) (fun _ _ _ h => h)
  · intro w' hb
    unfold yv
    go_simp
    simp only [yvUpon]
    exact ⟨trivial, rfl⟩
  · go_simp
    exact rfl
  apply wpX_take (i := 1) rfl rfl (by kernel_rfl) (fun _ _ _ h => h)
  · intro w' hb
    have yrc0 := (rc.below hb zrc).cell 0
    have yrc1 := (rc.below hb zrc).cell 1
    have yrc2 := (rc.below hb zrc).cell 2
    have yrc3 := (rc.below hb zrc).cell 3
    have yrc4 := (rc.below hb zrc).cell 4
    have yrc5 := (rc.below hb zrc).cell 5
    have yrc6 := (rc.below hb zrc).cell 6
    have yrc7 := (rc.below hb zrc).cell 7
    have yrc8 := (rc.below hb zrc).cell 8
    unfold yv
    go_simp
    simp only [yvUpon]
    exact ⟨trivial, rfl⟩
  · go_simp
    exact rfl
  apply wpX_take (i := 2) rfl rfl (by kernel_rfl) (fun _ _ _ h => h)
  · intro w' hb
    unfold yv
    go_simp
    simp only [yvUpon]
    exact ⟨trivial, rfl⟩
  · go_simp
    exact rfl
  apply wpX_take (i := 3) rfl rfl (by kernel_rfl) (fun _ _ _ h => h)
  · intro w' hb
    unfold yv
    go_simp
    simp only [yvUpon]
    exact ⟨trivial, rfl⟩
  · go_simp
    exact rfl
  apply wpX_take (i := 4) rfl rfl (by kernel_rfl) (fun _ _ _ h => h)
  · intro w' hb
    have yrs2 := (rs.below hb zrs).cell 2
    unfold yv
    go_simp
    simp only [yvUpon]
    exact ⟨trivial, rfl⟩
  · go_simp
    exact rfl
  apply wpX_take (i := 5) rfl rfl (by kernel_rfl) (fun _ _ _ h => h)
  · intro w' hb
    unfold yv
    go_simp
    simp only [yvUpon]
    exact ⟨trivial, (unhide Q2) w'⟩
  · go_simp
    exact rfl
  apply wpX_take (i := 6) rfl rfl (by kernel_rfl) (fun _ _ _ h => h)
  · intro w' hb
    unfold yv
    go_simp
    simp only [yvUpon]
    exact ⟨trivial, rfl⟩
  · go_simp
    exact rfl
  apply wpX_take (i := 7) rfl rfl (by kernel_rfl) (fun _ _ _ h => h)
  · intro w' hb
    have yrs7 := (rs.below hb zrs).cell 7
    unfold yv
    go_simp
    simp only [yvUpon]
    exact ⟨trivial, rfl⟩
  · go_simp
    exact rfl
  apply wpX_take (i := 8) rfl rfl (by kernel_rfl) (fun _ _ _ h => h)
  · intro w' hb
    unfold yv
    go_simp
    simp only [yvUpon]
    exact ⟨trivial, rfl⟩
  · go_simp
    exact rfl
  apply wpX_take (i := 9) rfl rfl (by kernel_rfl) (fun _ _ _ h => h)
  · intro w' hb
    have yrs7 := (rs.below hb zrs).cell 7
    unfold yv
    go_simp
    simp only [yvUpon]
    exact ⟨trivial, rfl⟩
  · go_simp
    exact rfl
  apply wpX_take (i := 10) rfl rfl (by kernel_rfl) (fun _ _ _ h => h)
  · intro w' hb
    unfold yv
    go_simp
    simp only [yvUpon]
    exact ⟨trivial, rfl⟩
  · go_simp
    exact rfl
  apply wpX_take (i := 11) rfl rfl (by kernel_rfl) (fun _ _ _ h => h)
  · intro w' hb
    unfold yv
    go_simp
    simp only [yvUpon]
    exact ⟨trivial, rfl⟩
  · go_simp
    exact rfl
  apply wpX_take (i := 12) rfl rfl (by kernel_rfl) (fun _ _ _ h => h)
  · intro w' hb
    have yd10 := (d1.below hb zd1).cell 0
    have yd11 := (d1.below hb zd1).cell 1
    unfold yv
    go_simp
    simp only [yvUpon]
    exact ⟨trivial, rfl⟩
  · go_simp
    exact rfl
  apply wpX_one (i := 13) rfl rfl (by kernel_rfl)
  unfold mild
  go_simp
  simp only [mildUpon]
  refine ⟨trivial, ?_⟩
  with_reducible refine ((unhide S1) _).mono ?_
  rintro e w17 ⟨rfl, hb⟩
  refine ⟨_, rfl, hb.mono HR.size, ?_⟩
  replace rc := rc.below hb rc.lt
  replace rs := rs.below hb rs.lt
  replace ri := ri.below hb ri.lt
  replace rt := rt.below hb rt.lt
  replace d1 := d1.below hb d1.lt
  replace d2 := d2.below hb d2.lt
  replace HB := HB.trans (hb.mono HB.size)
  replace HR := HR.trans (hb.mono HR.size)
  clear hb
  apply wpX_take (i := 14) rfl rfl (by kernel_rfl) (fun _ _ _ h => h)
  · intro w' hb
    unfold yv
    go_simp
    simp only [yvUpon]
    exact ⟨trivial, (unhide Q3) w'⟩
  · go_simp
    exact rfl
  apply wpX_take (i := 15) rfl rfl (by kernel_rfl) (fun _ _ _ h => h)
  · intro w' hb
    unfold yv
    go_simp
    simp only [yvUpon]
    exact ⟨trivial, rfl⟩
  · go_simp
    exact rfl
  apply wpX_one (i := 16) rfl rfl (by kernel_rfl)
  unfold mild
  go_simp
  simp only [mildUpon]
  refine ⟨trivial, ?_⟩
  with_reducible refine ((unhide K6) _ ((L.below HB).more HB.size)).mono ?_
  rintro e w18 ⟨rfl, hb⟩
  refine ⟨_, rfl, hb.mono HR.size, ?_⟩
  replace rc := rc.below hb rc.lt
  replace rs := rs.below hb rs.lt
  replace ri := ri.below hb ri.lt
  replace rt := rt.below hb rt.lt
  replace d1 := d1.below hb d1.lt
  replace d2 := d2.below hb d2.lt
  replace HB := HB.trans (hb.mono HB.size)
  replace HR := HR.trans (hb.mono HR.size)
  clear hb
  apply wpX_take (i := 17) rfl rfl (by kernel_rfl) (fun _ _ _ h => h)
  · intro w' hb
    unfold yv
    go_simp
    simp only [yvUpon]
    exact ⟨trivial, rfl⟩
  · go_simp
    exact rfl
  apply wpX_take (i := 18) rfl rfl (by kernel_rfl) (fun _ _ _ h => h)
  · intro w' hb
    unfold yv
    go_simp
    simp only [yvUpon]
    exact ⟨trivial, rfl⟩
  · go_simp
    exact rfl
  apply wpX_take (i := 19) rfl rfl (by kernel_rfl) (fun _ _ _ h => h)
  · intro w' hb
    unfold yv
    go_simp
    simp only [yvUpon]
    exact ⟨trivial, rfl⟩
  · go_simp
    exact rfl
  refine wpX_rest (k := 20) (by kernel_rfl) ?_
  simp only [List.drop_succ_cons, List.drop_zero]
  go_wp2_with fail
  obtain ⟨w19, hw, sw⟩ := drewX w18
  replace rc : Blk w19 (w.heap.size) 35 #[.int .i64 P.m.r, .int .i64 P.m.m, .slice X.A1 X.n1 X.c1, .slice X.A2 X.n2 X.c2, .slice X.A3 X.n3 X.c3, .slice X.A4 X.n4 X.c4, .int .i64 P.m.p, .int .i64 P.m.s, .int .i64 P.m.f, .int .i64 P.l.num, .int .i64 P.l.den, .int .i64 P.l.sup, .int .i64 P.l.fed, .int .i64 P.l.ohm, .int .i64 P.l.bon, .int .i64 P.l.boff, .int .i64 P.l.bohm, .int .i64 P.g, .int .i64 P.d, .int .i64 P.y, .slice X.B1 X.m1 X.d1, .slice X.B2 X.m2 X.d2, .slice X.B3 X.m3 X.d3, .int .i64 P.wi, .int .i64 P.sw] := hw ▸ rc.drew
  have zrc := rc.lt
  replace rs : Blk w19 (w.heap.size + 1) 45 #[.int .i64 s.fd, .int .i64 s.fq, .int .i64 s.v, .bool s.b, .int .i64 s.po, .int .i64 s.sp, .slice YA yn yc, .int .i64 T] := hw ▸ rs.drew
  have zrs := rs.lt
  replace ri : Blk w19 (w.heap.size + 1 + 1) 51 #[.int .i64 z.per, .bool z.b0, .bool z.b1, .bool z.b2, .bool z.b3, .bool z.b4, .bool z.b5, .slice GA gn gc, .int .i64 z.ld, .int .i64 z.amb, .bool z.k0, .bool z.k1, .bool z.k2, .bool z.k3, .bool z.k4, .bool z.k5, .bool z.de, .bool z.nb] := hw ▸ ri.drew
  have zri := ri.lt
  replace rt : Blk w19 (w7.heap.size) 45 #[.int .i64 nx.fd, .int .i64 nx.fq, .int .i64 nx.v, .bool nx.b, .int .i64 nx.po, .int .i64 nx.sp, .slice A 3 ca, .int .i64 nx.tn] := hw ▸ rt.drew
  have zrt := rt.lt
  replace d1 : Blk w19 (w10.heap.size) 37 #[.int .i64 i1, .int .i64 i2] := hw ▸ d1.drew
  have zd1 := d1.lt
  replace d2 : Blk w19 (w13.heap.size) 37 #[.int .i64 j1, .int .i64 j2] := hw ▸ d2.drew
  have zd2 := d2.lt
  replace HB : Below w.heap.size w w19 := hw ▸ HB.drew
  refine wp_region_multi (fun i => [11, 16, 18, 20, 21].contains i) (fun i => [11, 16, 18].contains i) w19.heap.size (by kernel_rfl) ?_
  change wpX _ _ _ _ _ _ _ _ _ _ w18.drew
  rw [hw]
  clear hw sw
  have HR := Below.refl w19.heap.size w19
  apply wpX_take (i := 0) rfl rfl (by kernel_rfl) (fun _ _ _ h => h)
  · intro w' hb
    unfold yv
    go_simp
    simp only [yvUpon]
    exact ⟨trivial, rfl⟩
  · go_simp
    exact rfl
  apply wpX_take (i := 1) rfl rfl (by kernel_rfl) (fun _ _ _ h => h)
  · intro w' hb
    have yd20 := (d2.below hb zd2).cell 0
    unfold yv
    go_simp
    simp only [yvUpon]
    exact ⟨trivial, rfl⟩
  · go_simp
    exact rfl
  apply wpX_take (i := 2) rfl rfl (by kernel_rfl) (fun _ _ _ h => h)
  · intro w' hb
    unfold yv
    go_simp
    simp only [yvUpon]
    exact ⟨trivial, rfl⟩
  · go_simp
    exact rfl
  apply wpX_take (i := 3) rfl rfl (by kernel_rfl) (fun _ _ _ h => h)
  · intro w' hb
    have yd10 := (d1.below hb zd1).cell 0
    unfold yv
    go_simp
    simp only [yvUpon]
    exact ⟨trivial, rfl⟩
  · go_simp
    exact rfl
  apply wpX_take (i := 4) rfl rfl (by kernel_rfl) (fun _ _ _ h => h)
  · intro w' hb
    unfold yv
    go_simp
    simp only [yvUpon]
    exact ⟨trivial, rfl⟩
  · go_simp
    exact rfl
  apply wpX_take (i := 5) rfl rfl (by kernel_rfl) (fun _ _ _ h => h)
  · intro w' hb
    unfold yv
    go_simp
    simp only [yvUpon]
    exact ⟨trivial, rfl⟩
  · go_simp
    exact rfl
  apply wpX_take (i := 6) rfl rfl (by kernel_rfl) (fun _ _ _ h => h)
  · intro w' hb
    have yd21 := (d2.below hb zd2).cell 1
    unfold yv
    go_simp
    simp only [yvUpon]
    exact ⟨trivial, rfl⟩
  · go_simp
    exact rfl
  apply wpX_take (i := 7) rfl rfl (by kernel_rfl) (fun _ _ _ h => h)
  · intro w' hb
    unfold yv
    go_simp
    simp only [yvUpon]
    exact ⟨trivial, rfl⟩
  · go_simp
    exact rfl
  apply wpX_take (i := 8) rfl rfl (by kernel_rfl) (fun _ _ _ h => h)
  · intro w' hb
    have yd11 := (d1.below hb zd1).cell 1
    unfold yv
    go_simp
    simp only [yvUpon]
    exact ⟨trivial, rfl⟩
  · go_simp
    exact rfl
  apply wpX_take (i := 9) rfl rfl (by kernel_rfl) (fun _ _ _ h => h)
  · intro w' hb
    unfold yv
    go_simp
    simp only [yvUpon]
    exact ⟨trivial, rfl⟩
  · go_simp
    exact rfl
  apply wpX_take (i := 10) rfl rfl (by kernel_rfl) (fun _ _ _ h => h)
  · intro w' hb
    unfold yv
    go_simp
    simp only [yvUpon]
    exact ⟨trivial, rfl⟩
  · go_simp
    exact rfl
  apply wpX_take (i := 12) rfl rfl (by kernel_rfl) (fun _ _ _ h => h)
  · intro w' hb
    unfold yv
    go_simp
    simp only [yvUpon]
    exact ⟨trivial, rfl⟩
  · go_simp
    exact rfl
  apply wpX_one (i := 11) rfl rfl (by kernel_rfl)
  unfold mild
  go_simp
  simp only [mildUpon]
  refine ⟨trivial, ?_⟩
  with_reducible refine ((unhide S2) _).mono ?_
  rintro e w20 ⟨rfl, hb⟩
  refine ⟨_, rfl, hb.mono HR.size, ?_⟩
  replace rc := rc.below hb rc.lt
  replace rs := rs.below hb rs.lt
  replace ri := ri.below hb ri.lt
  replace rt := rt.below hb rt.lt
  replace d1 := d1.below hb d1.lt
  replace d2 := d2.below hb d2.lt
  replace HB := HB.trans (hb.mono HB.size)
  replace HR := HR.trans (hb.mono HR.size)
  clear hb
  apply wpX_take (i := 13) rfl rfl (by kernel_rfl) (fun _ _ _ h => h)
  · intro w' hb
    unfold yv
    go_simp
    simp only [yvUpon]
    exact ⟨trivial, rfl⟩
  · go_simp
    exact rfl
  apply wpX_take (i := 14) rfl rfl (by kernel_rfl) (fun _ _ _ h => h)
  · intro w' hb
    unfold yv
    go_simp
    simp only [yvUpon]
    exact ⟨trivial, rfl⟩
  · go_simp
    exact rfl
  apply wpX_takeG (i := 15) rfl (by go_simp) (by kernel_rfl) (fun _ _ _ h => h)
  · intro w' hb
    have yd20 := (d2.below hb zd2).cell 0
    have yd21 := (d2.below hb zd2).cell 1
    unfold yv
    go_simp
    simp only [yvUpon]
    exact ⟨trivial, rfl⟩
  · go_simp
    exact rfl
  apply wpX_takeG (i := 17) rfl (by go_simp) (by kernel_rfl) (fun _ _ _ h => h)
  · intro w' hb
    have yd10 := (d1.below hb zd1).cell 0
    have yd11 := (d1.below hb zd1).cell 1
    unfold yv
    go_simp
    simp only [yvUpon]
    exact ⟨trivial, rfl⟩
  · go_simp
    exact rfl
  apply wpX_oneG (i := 16) rfl (by go_simp) (by kernel_rfl)
  unfold mild
  go_simp
  simp only [mildUpon]
  refine ⟨trivial, ?_⟩
  with_reducible refine ((unhide S3) _).mono ?_
  rintro e w21 ⟨rfl, hb⟩
  refine ⟨_, rfl, hb.mono HR.size, ?_⟩
  replace rc := rc.below hb rc.lt
  replace rs := rs.below hb rs.lt
  replace ri := ri.below hb ri.lt
  replace rt := rt.below hb rt.lt
  replace d1 := d1.below hb d1.lt
  replace d2 := d2.below hb d2.lt
  replace HB := HB.trans (hb.mono HB.size)
  replace HR := HR.trans (hb.mono HR.size)
  clear hb
  apply wpX_oneG (i := 18) rfl (by go_simp) (by kernel_rfl)
  unfold mild
  go_simp
  simp only [mildUpon]
  refine ⟨trivial, ?_⟩
  with_reducible refine ((unhide S1) _).mono ?_
  rintro e w22 ⟨rfl, hb⟩
  refine ⟨_, rfl, hb.mono HR.size, ?_⟩
  replace rc := rc.below hb rc.lt
  replace rs := rs.below hb rs.lt
  replace ri := ri.below hb ri.lt
  replace rt := rt.below hb rt.lt
  replace d1 := d1.below hb d1.lt
  replace d2 := d2.below hb d2.lt
  replace HB := HB.trans (hb.mono HB.size)
  replace HR := HR.trans (hb.mono HR.size)
  clear hb
  apply wpX_takeG (i := 19) rfl (by go_simp) (by kernel_rfl) (fun _ _ _ h => h)
  · intro w' hb
    unfold yv
    go_simp
    simp only [yvUpon]
    exact ⟨trivial, rfl⟩
  · go_simp
    exact rfl
  refine wpX_rest (k := 20) (by kernel_rfl) ?_
  simp only [List.drop_succ_cons, List.drop_zero]
  go_wp2
  go_ret
  exact ⟨rfl, HB⟩
theorem prises_walk (P : Pc) (X : Pa) (s : Ps) (YA : Option Addr) (yn yc : Nat) (z : Pi) (GA : Option Addr) (gn gc : Nat) (w : World) (L : Py w w.heap.size P X) (SY : Sl w w.heap.size 1 YA (rows s.h)) (ey : yn = s.h.length) (SG : Sl w w.heap.size 3 GA (z.es.map I.Ed.row)) (eg : gn = z.es.length) :
    Calls Try.prog 6 #[.agg #[.int .i64 P.m.r, .int .i64 P.m.m, .slice X.A1 X.n1 X.c1, .slice X.A2 X.n2 X.c2, .slice X.A3 X.n3 X.c3, .slice X.A4 X.n4 X.c4, .int .i64 P.m.p, .int .i64 P.m.s, .int .i64 P.m.f, .int .i64 P.l.num, .int .i64 P.l.den, .int .i64 P.l.sup, .int .i64 P.l.fed, .int .i64 P.l.ohm, .int .i64 P.l.bon, .int .i64 P.l.boff, .int .i64 P.l.bohm, .int .i64 P.g, .int .i64 P.d, .int .i64 P.y, .slice X.B1 X.m1 X.d1, .slice X.B2 X.m2 X.d2, .slice X.B3 X.m3 X.d3, .int .i64 P.wi, .int .i64 P.sw], .agg #[.int .i64 s.fd, .int .i64 s.fq, .int .i64 s.v, .bool s.b, .int .i64 s.po, .int .i64 s.sp, .slice YA yn yc, .int .i64 s.tn], .agg #[.int .i64 z.per, .bool z.b0, .bool z.b1, .bool z.b2, .bool z.b3, .bool z.b4, .bool z.b5, .slice GA gn gc, .int .i64 z.ld, .int .i64 z.amb, .bool z.k0, .bool z.k1, .bool z.k2, .bool z.k3, .bool z.k4, .bool z.k5, .bool z.de, .bool z.nb]] w fun e w' => e = .returned (.bool true) ∧ Below w.heap.size w w' := by
  cases hl : lgP X yn gn with
  | true => exact prises_large P X s YA yn yc z GA gn gc w hl
  | false =>
    by_cases hc : stCode P (sTn s) z = 0
    · obtain ⟨hp, hi⟩ := st_ok hc
      have h := prises hp hi (clipI_in s.tn (-16384) 16384 (by omega))
      by_cases hz : szI (curD P.m (pxS P (sTn s) z).fd - curD P.m s.fd) (curQ P.m (pxS P (sTn s) z).fq - curQ P.m s.fq) ≤ riI P.m (clipI s.v 0 1048576) (max (clipI s.tn (-16384) 16384) (-(clipI s.tn (-16384) 16384))) (szI (curD P.m s.fd) (curQ P.m s.fq))
      · exact prises_oka P X s YA yn yc z GA gn gc w L SY ey SG eg hl hc hz
      · exact prises_okb P X s YA yn yc z GA gn gc w L SY ey SG eg hl hc hz (h.resolve_left hz)
    · exact prises_bad P X s YA yn yc z GA gn gc w L ey SG eg hl hc
end Go.Proofs.Ytpfkiohknpeifaa
