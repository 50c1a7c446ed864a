/- The walk of the statement PlantRests. -/
import Derived.Test.YtpfkiohknpeifaaPAwake
import Derived.Test.YtpfkiohknpeifaaPLarge
import Derived.Test.YtpfkiohknpeifaaPLaws
import Derived.Test.YtpfkiohknpeifaaPRestsP
import Derived.Test.YtpfkiohknpeifaaPPChkR
import Derived.Lib.MinMax
namespace Go.Proofs.Ytpfkiohknpeifaa
open Go.RowKit
set_option maxRecDepth 100000 in
set_option maxHeartbeats 1600000 in
theorem ints_walk (xs : List Int) (A A2 : Option Addr) (n c n2 c2 : Nat) (w : World) (hE : Sl w w.heap.size 1 A (rows xs)) (hE2 : Sl w w.heap.size 1 A2 (rows xs)) (hn : n = xs.length) (hn2 : n2 = xs.length) (hm : xs.length ≤ 1000000) :
    Calls Try.prog 16 #[.slice A n c, .slice A2 n2 c2] w fun e w' => e = .returned (.bool true) ∧ Below w.heap.size w w' := by
  subst hn hn2
  obtain ⟨L, hL⟩ : ∃ L, xs.length = L := ⟨_, rfl⟩
  rw [hL] at hm ⊢
  have HL := Lib.hid hL
  clear hL
  go_enter Try.func16, Try.ntmps16
  go_wp2
  go_loopw [13] (fun i wr => ∃ k : Nat, k ≤ L ∧ i = .int .i64 k ∧ Below w.heap.size w wr) (fun i _ => L - (intOf i).toNat)
  case atStart => exact ⟨0, Nat.zero_le _, rfl, Below.refl _ _⟩
  case round =>
  obtain ⟨k, hk, rfl, hb⟩ := hrel
  by_cases hlt : k < L
  · obtain ⟨ad, p, rfl, hpa, hpb, e0⟩ := (hE.below hb).at1 (k := k) (by have := HL.out; omega)
    obtain ⟨ad2, p2, rfl, hpa2, hpb2, e02⟩ := (hE2.below hb).at1 (k := k) (by have := HL.out; omega)
    obtain ⟨x, hx⟩ : ∃ x, g xs k = x := ⟨_, rfl⟩
    rw [hx] at e0 e02
    clear hx
    have hs := hb.size
    have hl1 : p.block < wr.heap.size := by omega
    have hl2 : p2.block < wr.heap.size := by omega
    go_wp2
    go_quiet (fail)
    go_wp2
    go_roundw
    case rel => exact ⟨k + 1, by omega, by go_num, below_drewN hb nq⟩
    case measure => simp [intOf]; omega
  · obtain rfl : k = L := by omega
    go_wp2
    go_ret
    exact ⟨rfl, hb⟩
set_option maxRecDepth 100000 in
set_option maxHeartbeats 6400000 in
theorem prests_large (P : Pc) (X : Pa) (amb : Int) (XA : Option Addr) (n c : Nat) (xs : List Int) (w : World) (L : Py w w.heap.size P X) (SX : Sl w w.heap.size 1 XA (rows xs)) (en : n = xs.length) (hl : lgP X 0 0 = true) :
    Calls Try.prog 4 #[.agg #[.int .i64 P.m.r, .int .i64 P.m.m, .slice X.A1 X.n1 X.c1, .slice X.A2 X.n2 X.c2, .slice X.A3 X.n3 X.c3, .slice X.A4 X.n4 X.c4, .int .i64 P.m.p, .int .i64 P.m.s, .int .i64 P.m.f, .int .i64 P.l.num, .int .i64 P.l.den, .int .i64 P.l.sup, .int .i64 P.l.fed, .int .i64 P.l.ohm, .int .i64 P.l.bon, .int .i64 P.l.boff, .int .i64 P.l.bohm, .int .i64 P.g, .int .i64 P.d, .int .i64 P.y, .slice X.B1 X.m1 X.d1, .slice X.B2 X.m2 X.d2, .slice X.B3 X.m3 X.d3, .int .i64 P.wi, .int .i64 P.sw], .int .i64 amb, .slice XA n c] w fun e w' => e = .returned (.bool true) ∧ Below w.heap.size w w' := by
  have kl := fun W => large_walkP P X ⟨0, 0, 0, false, 0, 0, [], 0⟩ none 0 0 ⟨0, false, false, false, false, false, false, [], 0, 0, false, false, false, false, false, false, false, false⟩ none 0 0 W
  simp only [hl] at kl
  have KL := hide kl
  clear kl
  clear hl en
  have HB := Below.refl w.heap.size w
  obtain ⟨w1, eW1, sW1, rc, hb⟩ := box w #[.int .i64 P.m.r, .int .i64 P.m.m, .slice X.A1 X.n1 X.c1, .slice X.A2 X.n2 X.c2, .slice X.A3 X.n3 X.c3, .slice X.A4 X.n4 X.c4, .int .i64 P.m.p, .int .i64 P.m.s, .int .i64 P.m.f, .int .i64 P.l.num, .int .i64 P.l.den, .int .i64 P.l.sup, .int .i64 P.l.fed, .int .i64 P.l.ohm, .int .i64 P.l.bon, .int .i64 P.l.boff, .int .i64 P.l.bohm, .int .i64 P.g, .int .i64 P.d, .int .i64 P.y, .slice X.B1 X.m1 X.d1, .slice X.B2 X.m2 X.d2, .slice X.B3 X.m3 X.d3, .int .i64 P.wi, .int .i64 P.sw] 35 (g := w.heap.size) rfl HB (by have := HB.size; omega)
  have Qrc : Hid (w.heap.size ≤ w.heap.size) := Lib.hid (by have := HB.size; omega)
  replace HB := hb
  clear hb
  go_enter Try.func4, Try.ntmps4
  go_wp2_with fail
  with_reducible refine (awakeP_walk _).mono ?_
  rintro e w2 ⟨rfl, hb⟩
  replace rc := rc.below hb rc.lt
  replace HB := HB.trans (hb.mono HB.size)
  clear hb
  clear eW1 sW1
  go_wp2_with (first | (refine wpList_load_row rfl 35 _ rfl (w.heap.size) rfl _ _ _ _ rc Try.underlying35 rfl (by kernel_rfl) ?_) | (refine wpList_load_rowG 35 _ rfl (by go_simp) (w.heap.size) rfl _ _ _ _ rc Try.underlying35 rfl (by kernel_rfl) ?_))
  with_reducible refine ((unhide KL) _).mono ?_
  rintro e w3 ⟨rfl, hb⟩
  replace rc := rc.below hb rc.lt
  replace HB := HB.trans (hb.mono HB.size)
  clear hb
  go_wp2_with fail
  with_reducible refine (awakeP_walk _).mono ?_
  rintro e w4 ⟨rfl, hb⟩
  replace rc := rc.below hb rc.lt
  replace HB := HB.trans (hb.mono HB.size)
  clear hb
  go_wp2
  go_ret
  exact ⟨rfl, HB⟩
set_option maxRecDepth 100000 in
set_option maxHeartbeats 6400000 in
theorem prests_many (P : Pc) (X : Pa) (amb : Int) (XA : Option Addr) (n c : Nat) (xs : List Int) (w : World) (L : Py w w.heap.size P X) (SX : Sl w w.heap.size 1 XA (rows xs)) (en : n = xs.length) (hl : lgP X 0 0 = false) (hn : 100 < n) :
    Calls Try.prog 4 #[.agg #[.int .i64 P.m.r, .int .i64 P.m.m, .slice X.A1 X.n1 X.c1, .slice X.A2 X.n2 X.c2, .slice X.A3 X.n3 X.c3, .slice X.A4 X.n4 X.c4, .int .i64 P.m.p, .int .i64 P.m.s, .int .i64 P.m.f, .int .i64 P.l.num, .int .i64 P.l.den, .int .i64 P.l.sup, .int .i64 P.l.fed, .int .i64 P.l.ohm, .int .i64 P.l.bon, .int .i64 P.l.boff, .int .i64 P.l.bohm, .int .i64 P.g, .int .i64 P.d, .int .i64 P.y, .slice X.B1 X.m1 X.d1, .slice X.B2 X.m2 X.d2, .slice X.B3 X.m3 X.d3, .int .i64 P.wi, .int .i64 P.sw], .int .i64 amb, .slice XA n c] w fun e w' => e = .returned (.bool true) ∧ Below w.heap.size w w' := by
  have kl := fun W => large_walkP P X ⟨0, 0, 0, false, 0, 0, [], 0⟩ none 0 0 ⟨0, false, false, false, false, false, false, [], 0, 0, false, false, false, false, false, false, false, false⟩ none 0 0 W
  simp only [hl] at kl
  have KL := hide kl
  clear kl
  have hn1 : (100 : Int) < (n : Int) := by omega
  clear hl en hn
  have HB := Below.refl w.heap.size w
  obtain ⟨w1, eW1, sW1, rc, hb⟩ := box w #[.int .i64 P.m.r, .int .i64 P.m.m, .slice X.A1 X.n1 X.c1, .slice X.A2 X.n2 X.c2, .slice X.A3 X.n3 X.c3, .slice X.A4 X.n4 X.c4, .int .i64 P.m.p, .int .i64 P.m.s, .int .i64 P.m.f, .int .i64 P.l.num, .int .i64 P.l.den, .int .i64 P.l.sup, .int .i64 P.l.fed, .int .i64 P.l.ohm, .int .i64 P.l.bon, .int .i64 P.l.boff, .int .i64 P.l.bohm, .int .i64 P.g, .int .i64 P.d, .int .i64 P.y, .slice X.B1 X.m1 X.d1, .slice X.B2 X.m2 X.d2, .slice X.B3 X.m3 X.d3, .int .i64 P.wi, .int .i64 P.sw] 35 (g := w.heap.size) rfl HB (by have := HB.size; omega)
  have Qrc : Hid (w.heap.size ≤ w.heap.size) := Lib.hid (by have := HB.size; omega)
  replace HB := hb
  clear hb
  go_enter Try.func4, Try.ntmps4
  go_wp2_with fail
  with_reducible refine (awakeP_walk _).mono ?_
  rintro e w2 ⟨rfl, hb⟩
  replace rc := rc.below hb rc.lt
  replace HB := HB.trans (hb.mono HB.size)
  clear hb
  clear eW1 sW1
  go_wp2_with (first | (refine wpList_load_row rfl 35 _ rfl (w.heap.size) rfl _ _ _ _ rc Try.underlying35 rfl (by kernel_rfl) ?_) | (refine wpList_load_rowG 35 _ rfl (by go_simp) (w.heap.size) rfl _ _ _ _ rc Try.underlying35 rfl (by kernel_rfl) ?_))
  with_reducible refine ((unhide KL) _).mono ?_
  rintro e w3 ⟨rfl, hb⟩
  replace rc := rc.below hb rc.lt
  replace HB := HB.trans (hb.mono HB.size)
  clear hb
  go_wp2_with fail
  with_reducible refine (awakeP_walk _).mono ?_
  rintro e w4 ⟨rfl, hb⟩
  replace rc := rc.below hb rc.lt
  replace HB := HB.trans (hb.mono HB.size)
  clear hb
  go_wp2
  go_ret
  exact ⟨rfl, HB⟩
set_option maxRecDepth 100000 in
set_option maxHeartbeats 6400000 in
theorem prests_bad (P : Pc) (X : Pa) (amb : Int) (XA : Option Addr) (n c : Nat) (xs : List Int) (w : World) (L : Py w w.heap.size P X) (SX : Sl w w.heap.size 1 XA (rows xs)) (en : n = xs.length) (hl : lgP X 0 0 = false) (hn : ¬ 100 < n) (hc : plCode P ≠ 0) :
    Calls Try.prog 4 #[.agg #[.int .i64 P.m.r, .int .i64 P.m.m, .slice X.A1 X.n1 X.c1, .slice X.A2 X.n2 X.c2, .slice X.A3 X.n3 X.c3, .slice X.A4 X.n4 X.c4, .int .i64 P.m.p, .int .i64 P.m.s, .int .i64 P.m.f, .int .i64 P.l.num, .int .i64 P.l.den, .int .i64 P.l.sup, .int .i64 P.l.fed, .int .i64 P.l.ohm, .int .i64 P.l.bon, .int .i64 P.l.boff, .int .i64 P.l.bohm, .int .i64 P.g, .int .i64 P.d, .int .i64 P.y, .slice X.B1 X.m1 X.d1, .slice X.B2 X.m2 X.d2, .slice X.B3 X.m3 X.d3, .int .i64 P.wi, .int .i64 P.sw], .int .i64 amb, .slice XA n c] w fun e w' => e = .returned (.bool true) ∧ Below w.heap.size w w' := by
  have kl := fun W => large_walkP P X ⟨0, 0, 0, false, 0, 0, [], 0⟩ none 0 0 ⟨0, false, false, false, false, false, false, [], 0, 0, false, false, false, false, false, false, false, false⟩ none 0 0 W
  simp only [hl] at kl
  have KL := hide kl
  clear kl
  have hn1 : ¬ (100 : Int) < (n : Int) := by omega
  have kc := fun (W : World) (h : Py W W.heap.size P X) => rckR P X W h
  obtain ⟨cd, hcd⟩ : ∃ x, plCode P = x := ⟨_, rfl⟩
  simp only [hcd] at kc
  rw [hcd] at hc
  have hcb : (cd != 0) = true := by simp [hc]
  have KC := hide kc
  clear kc hcd hl en hn
  have HB := Below.refl w.heap.size w
  obtain ⟨w1, eW1, sW1, rc, hb⟩ := box w #[.int .i64 P.m.r, .int .i64 P.m.m, .slice X.A1 X.n1 X.c1, .slice X.A2 X.n2 X.c2, .slice X.A3 X.n3 X.c3, .slice X.A4 X.n4 X.c4, .int .i64 P.m.p, .int .i64 P.m.s, .int .i64 P.m.f, .int .i64 P.l.num, .int .i64 P.l.den, .int .i64 P.l.sup, .int .i64 P.l.fed, .int .i64 P.l.ohm, .int .i64 P.l.bon, .int .i64 P.l.boff, .int .i64 P.l.bohm, .int .i64 P.g, .int .i64 P.d, .int .i64 P.y, .slice X.B1 X.m1 X.d1, .slice X.B2 X.m2 X.d2, .slice X.B3 X.m3 X.d3, .int .i64 P.wi, .int .i64 P.sw] 35 (g := w.heap.size) rfl HB (by have := HB.size; omega)
  have Qrc : Hid (w.heap.size ≤ w.heap.size) := Lib.hid (by have := HB.size; omega)
  replace HB := hb
  clear hb
  go_enter Try.func4, Try.ntmps4
  go_wp2_with fail
  with_reducible refine (awakeP_walk _).mono ?_
  rintro e w2 ⟨rfl, hb⟩
  replace rc := rc.below hb rc.lt
  replace HB := HB.trans (hb.mono HB.size)
  clear hb
  clear eW1 sW1
  go_wp2_with (first | (refine wpList_load_row rfl 35 _ rfl (w.heap.size) rfl _ _ _ _ rc Try.underlying35 rfl (by kernel_rfl) ?_) | (refine wpList_load_rowG 35 _ rfl (by go_simp) (w.heap.size) rfl _ _ _ _ rc Try.underlying35 rfl (by kernel_rfl) ?_))
  with_reducible refine ((unhide KL) _).mono ?_
  rintro e w3 ⟨rfl, hb⟩
  replace rc := rc.below hb rc.lt
  replace HB := HB.trans (hb.mono HB.size)
  clear hb
  go_wp2_with (first | (refine wpList_load_row rfl 35 _ rfl (w.heap.size) rfl _ _ _ _ rc Try.underlying35 rfl (by kernel_rfl) ?_) | (refine wpList_load_rowG 35 _ rfl (by go_simp) (w.heap.size) rfl _ _ _ _ rc Try.underlying35 rfl (by kernel_rfl) ?_))
  with_reducible refine ((unhide KC) _ ((L.below HB).more HB.size)).mono ?_
  rintro e w4 ⟨rfl, hb⟩
  replace rc := rc.below hb rc.lt
  replace HB := HB.trans (hb.mono HB.size)
  clear hb
  go_wp2_with fail
  with_reducible refine (awakeP_walk _).mono ?_
  rintro e w5 ⟨rfl, hb⟩
  replace rc := rc.below hb rc.lt
  replace HB := HB.trans (hb.mono HB.size)
  clear hb
  go_wp2
  go_ret
  exact ⟨rfl, HB⟩
theorem clipB_q' (n lo hi : Int) (h : lo ≤ hi) (w : World) : Calls Try.prog 15 #[.int .i64 n, .int .i64 lo, .int .i64 hi] w fun e w' => e = .returned (.int .i64 (clipI n lo hi)) ∧ w' = w :=
  (clipB n lo hi h w).mono fun _ _ ⟨he, hw⟩ => ⟨he, hw.symm⟩
set_option maxRecDepth 100000 in
set_option maxHeartbeats 6400000 in
theorem prests_ok (P : Pc) (X : Pa) (amb : Int) (XA : Option Addr) (n c : Nat) (xs : List Int) (w : World) (L : Py w w.heap.size P X) (SX : Sl w w.heap.size 1 XA (rows xs)) (en : n = xs.length) (hl : lgP X 0 0 = false) (hn : ¬ 100 < n) (hc : plCode P = 0) :
    Calls Try.prog 4 #[.agg #[.int .i64 P.m.r, .int .i64 P.m.m, .slice X.A1 X.n1 X.c1, .slice X.A2 X.n2 X.c2, .slice X.A3 X.n3 X.c3, .slice X.A4 X.n4 X.c4, .int .i64 P.m.p, .int .i64 P.m.s, .int .i64 P.m.f, .int .i64 P.l.num, .int .i64 P.l.den, .int .i64 P.l.sup, .int .i64 P.l.fed, .int .i64 P.l.ohm, .int .i64 P.l.bon, .int .i64 P.l.boff, .int .i64 P.l.bohm, .int .i64 P.g, .int .i64 P.d, .int .i64 P.y, .slice X.B1 X.m1 X.d1, .slice X.B2 X.m2 X.d2, .slice X.B3 X.m3 X.d3, .int .i64 P.wi, .int .i64 P.sw], .int .i64 amb, .slice XA n c] w fun e w' => e = .returned (.bool true) ∧ Below w.heap.size w w' := by
  have kl := fun W => large_walkP P X ⟨0, 0, 0, false, 0, 0, [], 0⟩ none 0 0 ⟨0, false, false, false, false, false, false, [], 0, 0, false, false, false, false, false, false, false, false⟩ none 0 0 W
  simp only [hl] at kl
  have KL := hide kl
  clear kl
  have hn1 : ¬ (100 : Int) < (n : Int) := by omega
  have kc := fun (W : World) (h : Py W W.heap.size P X) => rckR P X W h
  simp only [hc] at kc
  have ok := lk_ok (pl_ok hc).l
  obtain ⟨_, _, by0⟩ := sh_ok (pl_ok hc).s
  obtain ⟨c1, c2, c3⟩ := rest_ph hc amb
  have k1 := fun (W : World) (h : Py W W.heap.size P X) => pstartM P X amb W h hc
  have k2 := fun (W : World) (A : Option Addr) (c : Nat) (h : Py W W.heap.size P X) (hy : Sl W W.heap.size 1 A (rows [warmV amb, warmV amb, warmV amb])) => poutM_ok P X (rS P amb) A 3 c W h hy rfl hc rfl
  simp only [c1, c2, c3] at k2
  have a0 : angP (rS P amb).po = 0 := by show angP 0 = 0; decide
  have w0 : wrapP (rS P amb).po = 0 := by show wrapP 0 = 0; decide
  have v0 : clipI (rS P amb).v 0 1048576 = P.l.sup := clip_at ok.sup
  have s0 : clipI (rS P amb).sp (-1073741824) 1073741824 = 0 := by show clipI 0 _ _ = 0; decide
  have t0 : torq P.m (rS P amb).fd (rS P amb).fq = 0 := rest_torq hc
  simp only [a0, w0, v0, s0, t0] at k2
  dsimp only [rS] at k2
  have k3 := fun (W : World) (A : Option Addr) (c : Nat) (ld : Int) (de : Bool) (hld : -P.y ≤ ld ∧ ld ≤ P.y) (h : Py W W.heap.size P X) (hy : Sl W W.heap.size 1 A (rows [warmV amb, warmV amb, warmV amb])) =>
    (rest_step hc amb hld de) ▸ pstepM_k P X (rS P amb) A 3 c (rZ ld amb de) none 0 0 W h hy rfl (Sl.nil _ _ _ _) rfl (by decide) (rest_code hc ld amb de)
  dsimp only [rS, rZ] at k3
  obtain ⟨CE, hCE⟩ : ∃ x, cels [warmV amb, warmV amb, warmV amb] 3 = x := ⟨_, rfl⟩
  have lCE : CE.length = 3 := by rw [← hCE]; exact cels_len _ _
  simp only [hCE] at k2
  have k4 := fun (W : World) (A B : Option Addr) (x y : Nat) (h1 : Sl W W.heap.size 1 A (rows CE)) (h2 : Sl W W.heap.size 1 B (rows CE)) => ints_walk CE A B 3 x 3 y W h1 h2 lCE.symm lCE.symm (by omega)
  have k5 := fun (x : Int) (W : World) => clipB_q' x (-P.y) P.y (by omega) W
  have b5 := fun (x : Int) => clipI_in x (-P.y) P.y (by omega)
  have e1 : wrap64 (-P.y) = -P.y := by unfold wrap64; omega
  have e1' : IntKind.i64.wrap (-P.y) = -P.y := IntWalk.i64_in _ (by omega)
  obtain ⟨wa, hwa⟩ : ∃ x, warmV amb = x := ⟨_, rfl⟩
  simp only [hwa] at k1 k2 k3
  have KC := hide kc
  have K1 := hide k1
  have K2 := hide k2
  have K3 := hide k3
  have K4 := hide k4
  have K5 := hide k5
  have B5 := Lib.hid b5
  have EN := Lib.hid en
  clear k1 k2 k3 k4 k5 kc c1 c2 c3 a0 w0 v0 s0 t0 hCE lCE b5 ok by0 hwa hl hc en hn
  have HB := Below.refl w.heap.size w
  obtain ⟨w1, eW1, sW1, rc, hb⟩ := box w #[.int .i64 P.m.r, .int .i64 P.m.m, .slice X.A1 X.n1 X.c1, .slice X.A2 X.n2 X.c2, .slice X.A3 X.n3 X.c3, .slice X.A4 X.n4 X.c4, .int .i64 P.m.p, .int .i64 P.m.s, .int .i64 P.m.f, .int .i64 P.l.num, .int .i64 P.l.den, .int .i64 P.l.sup, .int .i64 P.l.fed, .int .i64 P.l.ohm, .int .i64 P.l.bon, .int .i64 P.l.boff, .int .i64 P.l.bohm, .int .i64 P.g, .int .i64 P.d, .int .i64 P.y, .slice X.B1 X.m1 X.d1, .slice X.B2 X.m2 X.d2, .slice X.B3 X.m3 X.d3, .int .i64 P.wi, .int .i64 P.sw] 35 (g := w.heap.size) rfl HB (by have := HB.size; omega)
  have Qrc : Hid (w.heap.size ≤ w.heap.size) := Lib.hid (by have := HB.size; omega)
  replace HB := hb
  clear hb
  go_enter Try.func4, Try.ntmps4
  go_wp2_with fail
  with_reducible refine (awakeP_walk _).mono ?_
  rintro e w2 ⟨rfl, hb⟩
  replace rc := rc.below hb rc.lt
  replace HB := HB.trans (hb.mono HB.size)
  clear hb
  clear eW1 sW1
  go_wp2_with (first | (refine wpList_load_row rfl 35 _ rfl (w.heap.size) rfl _ _ _ _ rc Try.underlying35 rfl (by kernel_rfl) ?_) | (refine wpList_load_rowG 35 _ rfl (by go_simp) (w.heap.size) rfl _ _ _ _ rc Try.underlying35 rfl (by kernel_rfl) ?_))
  with_reducible refine ((unhide KL) _).mono ?_
  rintro e w3 ⟨rfl, hb⟩
  replace rc := rc.below hb rc.lt
  replace HB := HB.trans (hb.mono HB.size)
  clear hb
  go_wp2_with (first | (refine wpList_load_row rfl 35 _ rfl (w.heap.size) rfl _ _ _ _ rc Try.underlying35 rfl (by kernel_rfl) ?_) | (refine wpList_load_rowG 35 _ rfl (by go_simp) (w.heap.size) rfl _ _ _ _ rc Try.underlying35 rfl (by kernel_rfl) ?_))
  with_reducible refine ((unhide KC) _ ((L.below HB).more HB.size)).mono ?_
  rintro e w4 ⟨rfl, hb⟩
  replace rc := rc.below hb rc.lt
  replace HB := HB.trans (hb.mono HB.size)
  clear hb
  go_wp2_with (first | (refine wpList_load_row rfl 35 _ rfl (w.heap.size) rfl _ _ _ _ rc Try.underlying35 rfl (by kernel_rfl) ?_))
  with_reducible refine ((unhide K1) _ ((L.below HB).more HB.size)).mono ?_
  rintro e w5 ⟨⟨A, rfl, SA, fA⟩, hb⟩
  replace rc := rc.below hb rc.lt
  replace HB := HB.trans (hb.mono HB.size)
  clear hb
  clear fA
  have HS := Below.refl w5.heap.size w5
  obtain ⟨w6, eW6, sW6, rs, hb⟩ := box w5 #[.int .i64 0, .int .i64 0, .int .i64 0, .bool false, .int .i64 0, .int .i64 0, .slice none 0 0, .int .i64 0] 45 (g := w5.heap.size) rfl HB (by have := HB.size; omega)
  have Qrs : Hid (w.heap.size ≤ w5.heap.size ∧ w5.heap.size ≤ w5.heap.size ∧ w.heap.size < w5.heap.size) := Lib.hid ⟨by have := HB.size; omega, by have := HS.size; omega, by have := rc.lt; omega⟩
  replace rc := rc.al eW6
  replace HS : Below w5.heap.size w5 w6 := eW6 ▸ HS.alloc HS.size _
  replace HB := hb
  clear hb
  have qrc := Qrc.out
  have qrs := Qrs.out
  have uHS := HS.size
  have rso6 := rs
  obtain ⟨w7, eW7, sW7, hr, hb⟩ := rowX rs #[.int .i64 P.m.m, .int .i64 0, .int .i64 P.l.sup, .bool false, .int .i64 0, .int .i64 0, .slice A 3 3, .int .i64 0] (n := w5.heap.size + 1) sW6 HB (by omega)
  replace rc := rc.rowTo eW7 (by omega)
  replace rs := hr
  have HSo := HS
  replace HS : Below w5.heap.size w5 w7 := eW7 ▸ below_row HS (by omega)
  replace HB := hb
  clear hb hr qrc qrs uHS
  go_wp2_with (first | (refine wpList_load_row rfl 35 _ rfl (w.heap.size) rfl _ _ _ _ rc Try.underlying35 rfl (by kernel_rfl) ?_) | (refine wpList_load_row rfl 45 _ rfl (w5.heap.size) rfl _ _ _ _ rs Try.underlying45 rfl (by kernel_rfl) ?_) | (refine wpList_store_row rfl 45 _ _ rfl (w5.heap.size) #[.int .i64 P.m.m, .int .i64 0, .int .i64 P.l.sup, .bool false, .int .i64 0, .int .i64 0, .slice A 3 3, .int .i64 0] rfl rfl _ _ rso6 (by kernel_rfl) (by kernel_rfl) (by kernel_rfl) ?_))
  have lrs := rs.lt
  with_reducible refine ((unhide K2) _ A 3 ((L.below HB).more HB.size) ((SA.below HS).more HS.size)).mono ?_
  rintro e w8 ⟨⟨A1, u1, rfl, S1, f1⟩, hb⟩
  replace rc := rc.below hb rc.lt
  replace rs := rs.below hb rs.lt
  replace HB := HB.trans (hb.mono HB.size)
  replace HS := HS.trans (hb.mono HS.size)
  clear hb
  clear rso6 eW6 sW6 eW7 sW7
  have F1 : Hid (∀ ad : Addr, A1 = some ad → w5.heap.size < ad.block) := Lib.hid fun ad h => by have := f1 ad h; omega
  clear f1 lrs
  have HT := Below.refl w8.heap.size w8
  obtain ⟨w9, eW9, sW9, rf, hb⟩ := box w8 #[.int .i64 0, .int .i64 0, .int .i64 0, .int .i64 0, .int .i64 0, .int .i64 0, .int .i64 0, .int .i64 0, .slice none 0 0] 65 (g := w8.heap.size) rfl HB (by have := HB.size; omega)
  have Qrf : Hid (w.heap.size ≤ w8.heap.size ∧ w5.heap.size ≤ w8.heap.size ∧ w8.heap.size ≤ w8.heap.size ∧ w.heap.size < w8.heap.size ∧ w5.heap.size < w8.heap.size) := Lib.hid ⟨by have := HB.size; omega, by have := HS.size; omega, by have := HT.size; omega, by have := rc.lt; omega, by have := rs.lt; omega⟩
  replace rc := rc.al eW9
  replace rs := rs.al eW9
  replace HS : Below w5.heap.size w5 w9 := eW9 ▸ HS.alloc HS.size _
  replace HT : Below w8.heap.size w8 w9 := eW9 ▸ HT.alloc HT.size _
  replace HB := hb
  clear hb
  have qrc := Qrc.out
  have qrs := Qrs.out
  have qrf := Qrf.out
  have uHS := HS.size
  have uHT := HT.size
  have rfo9 := rf
  obtain ⟨w10, eW10, sW10, hr, hb⟩ := rowX rf #[.int .i64 0, .int .i64 0, .int .i64 0, .int .i64 P.l.sup, .int .i64 0, .int .i64 0, .int .i64 0, .int .i64 0, .slice A1 3 u1] (n := w8.heap.size + 1) sW9 HB (by omega)
  replace rc := rc.rowTo eW10 (by omega)
  replace rs := rs.rowTo eW10 (by omega)
  replace rf := hr
  have HSo := HS
  replace HS : Below w5.heap.size w5 w10 := eW10 ▸ below_row HS (by omega)
  have HTo := HT
  replace HT : Below w8.heap.size w8 w10 := eW10 ▸ below_row HT (by omega)
  replace HB := hb
  clear hb hr qrc qrs qrf uHS uHT
  go_wp2_with (first | (refine wpList_store_row rfl 65 _ _ rfl (w8.heap.size) #[.int .i64 0, .int .i64 0, .int .i64 0, .int .i64 P.l.sup, .int .i64 0, .int .i64 0, .int .i64 0, .int .i64 0, .slice A1 3 u1] rfl rfl _ _ rfo9 (by kernel_rfl) (by kernel_rfl) (by kernel_rfl) ?_))
  clear rfo9 eW9 sW9 eW10 sW10
  have s2 := ((SA.below HS).more HS.size)
  have s3 := ((S1.below HT).more HT.size)
  clear SA S1 HS HT
  go_loopw [10] (fun i wr => ∃ (k : Nat) (A : Option Addr) (ca : Nat), k ≤ n ∧ i = .int .i64 k ∧ Blk wr (w.heap.size) 35 #[.int .i64 P.m.r, .int .i64 P.m.m, .slice X.A1 X.n1 X.c1, .slice X.A2 X.n2 X.c2, .slice X.A3 X.n3 X.c3, .slice X.A4 X.n4 X.c4, .int .i64 P.m.p, .int .i64 P.m.s, .int .i64 P.m.f, .int .i64 P.l.num, .int .i64 P.l.den, .int .i64 P.l.sup, .int .i64 P.l.fed, .int .i64 P.l.ohm, .int .i64 P.l.bon, .int .i64 P.l.boff, .int .i64 P.l.bohm, .int .i64 P.g, .int .i64 P.d, .int .i64 P.y, .slice X.B1 X.m1 X.d1, .slice X.B2 X.m2 X.d2, .slice X.B3 X.m3 X.d3, .int .i64 P.wi, .int .i64 P.sw] ∧ Blk wr (w5.heap.size) 45 #[.int .i64 P.m.m, .int .i64 0, .int .i64 P.l.sup, .bool false, .int .i64 0, .int .i64 0, .slice A 3 ca, .int .i64 0] ∧ Blk wr (w8.heap.size) 65 #[.int .i64 0, .int .i64 0, .int .i64 0, .int .i64 P.l.sup, .int .i64 0, .int .i64 0, .int .i64 0, .int .i64 0, .slice A1 3 u1] ∧ Sl wr wr.heap.size 1 A (rows [wa, wa, wa]) ∧ Sl wr wr.heap.size 1 A1 (rows CE) ∧ Below w.heap.size w wr) (fun i _ => n - (intOf i).toNat)
  case atStart => exact ⟨0, A, 3, Nat.zero_le _, rfl, rc, rs, rf, s2, s3, HB⟩
  case round =>
    clear rc rs rf s2 s3 HB
    obtain ⟨k, A, ca, hk, rfl, rc, rs, rf, S0, S1, HB⟩ := hrel
    obtain ⟨w100, rfl⟩ : ∃ W, W = wr := ⟨_, rfl⟩
    by_cases hlt : k < n
    · skip
      have HS := Below.refl w100.heap.size w100
      have rcc19 := rc.cell 19
      obtain ⟨ad, p, rfl, hpa, hpb, p0⟩ := (SX.below HB).at1 (k := k) (by have := EN.out; omega)
      obtain ⟨x, hx⟩ : ∃ x, g xs k = x := ⟨_, rfl⟩
      rw [hx] at p0
      have hl1 : p.block < w100.heap.size := by have := HB.size; omega
      obtain ⟨ld, hld⟩ : ∃ y, clipI x (-P.y) P.y = y := ⟨_, rfl⟩
      have bl := B5.out x
      rw [hld] at bl
      have q5 := fun W => (unhide K5) x W
      simp only [hld] at q5
      have Q5 := hide q5
      have BL := Lib.hid bl
      clear q5 hld hx bl
      go_wp2_with fail
      refine wp_region_mix 12 (by kernel_rfl) (by kernel_rfl) (fun _ _ _ _ _ h => h) ?_
      simp only [List.take_succ_cons, List.take_zero, List.drop_succ_cons, List.drop_zero]
      repeat still_step
      still_call ((unhide Q5) _)
      repeat still_step
      refine wpStill_nil ?_
      change wpList _ _ _ _ _ w100.drew
      obtain ⟨w101, hw⟩ : ∃ W, w100.drew = W := ⟨_, rfl⟩
      replace rc : Blk w101 (w.heap.size) 35 #[.int .i64 P.m.r, .int .i64 P.m.m, .slice X.A1 X.n1 X.c1, .slice X.A2 X.n2 X.c2, .slice X.A3 X.n3 X.c3, .slice X.A4 X.n4 X.c4, .int .i64 P.m.p, .int .i64 P.m.s, .int .i64 P.m.f, .int .i64 P.l.num, .int .i64 P.l.den, .int .i64 P.l.sup, .int .i64 P.l.fed, .int .i64 P.l.ohm, .int .i64 P.l.bon, .int .i64 P.l.boff, .int .i64 P.l.bohm, .int .i64 P.g, .int .i64 P.d, .int .i64 P.y, .slice X.B1 X.m1 X.d1, .slice X.B2 X.m2 X.d2, .slice X.B3 X.m3 X.d3, .int .i64 P.wi, .int .i64 P.sw] := hw ▸ rc.drew
      replace rs : Blk w101 (w5.heap.size) 45 #[.int .i64 P.m.m, .int .i64 0, .int .i64 P.l.sup, .bool false, .int .i64 0, .int .i64 0, .slice A 3 ca, .int .i64 0] := hw ▸ rs.drew
      replace rf : Blk w101 (w8.heap.size) 65 #[.int .i64 0, .int .i64 0, .int .i64 0, .int .i64 P.l.sup, .int .i64 0, .int .i64 0, .int .i64 0, .int .i64 0, .slice A1 3 u1] := hw ▸ rf.drew
      replace HB : Below w.heap.size w w101 := hw ▸ HB.drew
      replace HS : Below w100.heap.size w100 w101 := hw ▸ HS.drew
      simp only [hw]
      clear hw
      clear rcc19 p0 hl1 hpa hpb
      go_wp2_with (first | (refine wpList_load_row rfl 35 _ rfl (w.heap.size) rfl _ _ _ _ rc Try.underlying35 rfl (by kernel_rfl) ?_) | (refine wpList_load_row rfl 45 _ rfl (w5.heap.size) rfl _ _ _ _ rs Try.underlying45 rfl (by kernel_rfl) ?_))
      have lrs := rs.lt
      with_reducible refine ((unhide K3) _ A ca ld _ BL.out ((L.below HB).more HB.size) ((S0.below HS).more HS.size)).mono ?_
      rintro e w102 ⟨⟨A2, c2, rfl, SB, f2⟩, hb⟩
      replace rc := rc.below hb rc.lt
      replace rs := rs.below hb rs.lt
      replace rf := rf.below hb rf.lt
      replace HB := HB.trans (hb.mono HB.size)
      replace HS := HS.trans (hb.mono HS.size)
      clear hb
      have F2 : ∀ ad : Addr, A2 = some ad → w5.heap.size < ad.block := fun ad h => by have := f2 ad h; omega
      have F2 := Lib.hid F2
      clear f2 lrs
      have HT := Below.refl w102.heap.size w102
      obtain ⟨w103, eW103, sW103, rt, hb⟩ := box w102 #[.int .i64 0, .int .i64 0, .int .i64 0, .bool false, .int .i64 0, .int .i64 0, .slice none 0 0, .int .i64 0] 45 (g := w102.heap.size) rfl HB (by have := HB.size; omega)
      have Qrt : Hid (w.heap.size ≤ w102.heap.size ∧ w100.heap.size ≤ w102.heap.size ∧ w102.heap.size ≤ w102.heap.size ∧ w.heap.size < w102.heap.size ∧ w5.heap.size < w102.heap.size ∧ w8.heap.size < w102.heap.size) := Lib.hid ⟨by have := HB.size; omega, by have := HS.size; omega, by have := HT.size; omega, by have := rc.lt; omega, by have := rs.lt; omega, by have := rf.lt; omega⟩
      replace rc := rc.al eW103
      replace rs := rs.al eW103
      replace rf := rf.al eW103
      replace HS : Below w100.heap.size w100 w103 := eW103 ▸ HS.alloc HS.size _
      replace HT : Below w102.heap.size w102 w103 := eW103 ▸ HT.alloc HT.size _
      replace HB := hb
      clear hb
      have qrc := Qrc.out
      have qrs := Qrs.out
      have qrf := Qrf.out
      have qrt := Qrt.out
      have uHS := HS.size
      have uHT := HT.size
      have rto103 := rt
      obtain ⟨w104, eW104, sW104, hr, hb⟩ := rowX rt #[.int .i64 P.m.m, .int .i64 0, .int .i64 P.l.sup, .bool false, .int .i64 0, .int .i64 0, .slice A2 3 c2, .int .i64 0] (n := w102.heap.size + 1) sW103 HB (by omega)
      replace rc := rc.rowTo eW104 (by omega)
      replace rs := rs.rowTo eW104 (by omega)
      replace rf := rf.rowTo eW104 (by omega)
      replace rt := hr
      have HSo := HS
      replace HS : Below w100.heap.size w100 w104 := eW104 ▸ below_row HS (by omega)
      have HTo := HT
      replace HT : Below w102.heap.size w102 w104 := eW104 ▸ below_row HT (by omega)
      replace HB := hb
      clear hb hr qrc qrs qrf qrt uHS uHT
      go_wp2_with (first | (refine wpList_load_row rfl 35 _ rfl (w.heap.size) rfl _ _ _ _ rc Try.underlying35 rfl (by kernel_rfl) ?_) | (refine wpList_load_row rfl 45 _ rfl (w102.heap.size) rfl _ _ _ _ rt Try.underlying45 rfl (by kernel_rfl) ?_) | (refine wpList_store_row rfl 45 _ _ rfl (w102.heap.size) #[.int .i64 P.m.m, .int .i64 0, .int .i64 P.l.sup, .bool false, .int .i64 0, .int .i64 0, .slice A2 3 c2, .int .i64 0] rfl rfl _ _ rto103 (by kernel_rfl) (by kernel_rfl) (by kernel_rfl) ?_))
      with_reducible refine ((unhide K2) _ A2 c2 ((L.below HB).more HB.size) ((SB.below HT).more HT.size)).mono ?_
      rintro e w105 ⟨⟨A3, u3, rfl, S3, f3⟩, hb⟩
      replace rc := rc.below hb rc.lt
      replace rs := rs.below hb rs.lt
      replace rf := rf.below hb rf.lt
      replace rt := rt.below hb rt.lt
      replace HB := HB.trans (hb.mono HB.size)
      replace HS := HS.trans (hb.mono HS.size)
      replace HT := HT.trans (hb.mono HT.size)
      clear hb
      clear rto103 eW103 sW103 eW104 sW104
      clear f3
      have HU := Below.refl w105.heap.size w105
      obtain ⟨w106, eW106, sW106, rx, hb⟩ := box w105 #[.int .i64 0, .int .i64 0, .int .i64 0, .int .i64 0, .int .i64 0, .int .i64 0, .int .i64 0, .int .i64 0, .slice none 0 0] 65 (g := w105.heap.size) rfl HB (by have := HB.size; omega)
      have Qrx : Hid (w.heap.size ≤ w105.heap.size ∧ w100.heap.size ≤ w105.heap.size ∧ w102.heap.size ≤ w105.heap.size ∧ w105.heap.size ≤ w105.heap.size ∧ w.heap.size < w105.heap.size ∧ w5.heap.size < w105.heap.size ∧ w8.heap.size < w105.heap.size ∧ w102.heap.size < w105.heap.size) := Lib.hid ⟨by have := HB.size; omega, by have := HS.size; omega, by have := HT.size; omega, by have := HU.size; omega, by have := rc.lt; omega, by have := rs.lt; omega, by have := rf.lt; omega, by have := rt.lt; omega⟩
      replace rc := rc.al eW106
      replace rs := rs.al eW106
      replace rf := rf.al eW106
      replace rt := rt.al eW106
      replace HS : Below w100.heap.size w100 w106 := eW106 ▸ HS.alloc HS.size _
      replace HT : Below w102.heap.size w102 w106 := eW106 ▸ HT.alloc HT.size _
      replace HU : Below w105.heap.size w105 w106 := eW106 ▸ HU.alloc HU.size _
      replace HB := hb
      clear hb
      have qrc := Qrc.out
      have qrs := Qrs.out
      have qrf := Qrf.out
      have qrt := Qrt.out
      have qrx := Qrx.out
      have uHS := HS.size
      have uHT := HT.size
      have uHU := HU.size
      have rxo106 := rx
      obtain ⟨w107, eW107, sW107, hr, hb⟩ := rowX rx #[.int .i64 0, .int .i64 0, .int .i64 0, .int .i64 P.l.sup, .int .i64 0, .int .i64 0, .int .i64 0, .int .i64 0, .slice A3 3 u3] (n := w105.heap.size + 1) sW106 HB (by omega)
      replace rc := rc.rowTo eW107 (by omega)
      replace rs := rs.rowTo eW107 (by omega)
      replace rf := rf.rowTo eW107 (by omega)
      replace rt := rt.rowTo eW107 (by omega)
      replace rx := hr
      have HSo := HS
      replace HS : Below w100.heap.size w100 w107 := eW107 ▸ below_row HS (by omega)
      have HTo := HT
      replace HT : Below w102.heap.size w102 w107 := eW107 ▸ below_row HT (by omega)
      have HUo := HU
      replace HU : Below w105.heap.size w105 w107 := eW107 ▸ below_row HU (by omega)
      replace HB := hb
      clear hb hr qrc qrs qrf qrt qrx uHS uHT uHU
      have rtc7 := rt.cell 7
      have rxc0 := rx.cell 0
      have rxc1 := rx.cell 1
      have rxc2 := rx.cell 2
      have rxc3 := rx.cell 3
      have rxc4 := rx.cell 4
      have rxc5 := rx.cell 5
      have rxc6 := rx.cell 6
      have rxc7 := rx.cell 7
      have rxc8 := rx.cell 8
      have rfc3 := rf.cell 3
      have rfc8 := rf.cell 8
      have he3 := fun (W : World) => eq_int3 0 0 0 0 0 0 W
      simp only [beq_self_eq_true, Bool.and_self] at he3
      go_wp2_with (first | (refine wpList_store_row rfl 65 _ _ rfl (w105.heap.size) #[.int .i64 0, .int .i64 0, .int .i64 0, .int .i64 P.l.sup, .int .i64 0, .int .i64 0, .int .i64 0, .int .i64 0, .slice A3 3 u3] rfl rfl _ _ rxo106 (by kernel_rfl) (by kernel_rfl) (by kernel_rfl) ?_))
      with_reducible refine ((unhide K4) _ A3 A1 u3 u1 ((S3.below HU).more HU.size) ((S1.below HS).more HS.size)).mono ?_
      rintro e w108 ⟨rfl, hb⟩
      replace rc := rc.below hb rc.lt
      replace rs := rs.below hb rs.lt
      replace rf := rf.below hb rf.lt
      replace rt := rt.below hb rt.lt
      replace rx := rx.below hb rx.lt
      replace HB := HB.trans (hb.mono HB.size)
      replace HS := HS.trans (hb.mono HS.size)
      replace HT := HT.trans (hb.mono HT.size)
      replace HU := HU.trans (hb.mono HU.size)
      clear hb
      clear rxo106 rtc7 rxc0 rxc1 rxc2 rxc3 rxc4 rxc5 rxc6 rxc7 rxc8 rfc3 rfc8 he3 eW106 sW106 eW107 sW107
      have s2 := ((SB.below HT).more HT.size)
      have s3 := ((S1.below HS).more HS.size)
      clear SB S1 S0 S3 HS HT HU
      have rtx108 := rt
      have qrc := Qrc.out
      have qrs := Qrs.out
      have qrf := Qrf.out
      have qrt := Qrt.out
      have qrx := Qrx.out
      have rso108 := rs
      obtain ⟨w109, eW109, sW109, hr, hb⟩ := rowX rs #[.int .i64 P.m.m, .int .i64 0, .int .i64 P.l.sup, .bool false, .int .i64 0, .int .i64 0, .slice A2 3 c2, .int .i64 0] (n := w108.heap.size) rfl HB (by omega)
      replace rc := rc.rowTo eW109 (by omega)
      replace rf := rf.rowTo eW109 (by omega)
      replace rt := rt.rowTo eW109 (by omega)
      replace rx := rx.rowTo eW109 (by omega)
      replace rs := hr
      replace HB := hb
      clear hb hr qrc qrs qrf qrt qrx
      replace s2 := (s2.rowTo eW109 (fun ad h => by have := F2.out ad h; omega)).more (by omega : w108.heap.size ≤ w109.heap.size)
      replace s3 := (s3.rowTo eW109 (fun ad h => by have := F1.out ad h; omega)).more (by omega : w108.heap.size ≤ w109.heap.size)
      go_wp2_with (first | (refine wpList_load_row rfl 45 _ rfl (w102.heap.size) rfl _ _ _ _ rtx108 Try.underlying45 rfl (by kernel_rfl) ?_) | (refine wpList_store_row rfl 45 _ _ rfl (w5.heap.size) #[.int .i64 P.m.m, .int .i64 0, .int .i64 P.l.sup, .bool false, .int .i64 0, .int .i64 0, .slice A2 3 c2, .int .i64 0] rfl rfl _ _ rso108 (by kernel_rfl) (by kernel_rfl) (by kernel_rfl) ?_))
      go_roundw
      case rel => exact ⟨k + 1, A2, c2, by omega, by go_num, rc, rs, rf, s2, s3, HB⟩
      case measure => simp [intOf]; omega
    · obtain rfl : n = k := by omega
      go_wp2
      go_ret
      exact ⟨rfl, HB⟩
theorem prests_walk (P : Pc) (X : Pa) (amb : Int) (XA : Option Addr) (n c : Nat) (xs : List Int) (w : World) (L : Py w w.heap.size P X) (SX : Sl w w.heap.size 1 XA (rows xs)) (en : n = xs.length) :
    Calls Try.prog 4 #[.agg #[.int .i64 P.m.r, .int .i64 P.m.m, .slice X.A1 X.n1 X.c1, .slice X.A2 X.n2 X.c2, .slice X.A3 X.n3 X.c3, .slice X.A4 X.n4 X.c4, .int .i64 P.m.p, .int .i64 P.m.s, .int .i64 P.m.f, .int .i64 P.l.num, .int .i64 P.l.den, .int .i64 P.l.sup, .int .i64 P.l.fed, .int .i64 P.l.ohm, .int .i64 P.l.bon, .int .i64 P.l.boff, .int .i64 P.l.bohm, .int .i64 P.g, .int .i64 P.d, .int .i64 P.y, .slice X.B1 X.m1 X.d1, .slice X.B2 X.m2 X.d2, .slice X.B3 X.m3 X.d3, .int .i64 P.wi, .int .i64 P.sw], .int .i64 amb, .slice XA n c] w fun e w' => e = .returned (.bool true) ∧ Below w.heap.size w w' := by
  cases hl : lgP X 0 0 with
  | true => exact prests_large P X amb XA n c xs w L SX en hl
  | false =>
    by_cases hn : 100 < n
    · exact prests_many P X amb XA n c xs w L SX en hl hn
    by_cases hc : plCode P = 0
    · exact prests_ok P X amb XA n c xs w L SX en hl hn hc
    · exact prests_bad P X amb XA n c xs w L SX en hl hn hc
end Go.Proofs.Ytpfkiohknpeifaa
