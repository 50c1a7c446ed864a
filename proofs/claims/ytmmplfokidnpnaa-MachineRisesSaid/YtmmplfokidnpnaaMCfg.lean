/- The configuration of a machine: what is wrong with it; the walks of its check, and of the reference's. -/
import Derived.Test.YtmmplfokidnpnaaMCurve
import Derived.BigRegion
import Derived.StillTailTactics
namespace Go.Proofs.Ytmmplfokidnpnaa
open Go.RowKit
/-- The numbers and curves of a machine's configuration. -/
structure Cf where
  r : Int
  m : Int
  dx : List Int
  dy : List Int
  qx : List Int
  qy : List Int
  p : Int
  s : Int
  f : Int
/-- What is wrong with a configuration. -/
def cfCode (C : Cf) : Int :=
  if wiB C.r 0 1048576 = true ∧ wiB C.m 0 268435456 = true then
    if mcCode C.dx C.dy ≠ 0 then mcCode C.dx C.dy
    else if mcCode C.qx C.qy ≠ 0 then mcCode C.qx C.qy
    else if wiB C.p 1 64 = true ∧ wiB C.s 1 1099511627776 = true ∧ wiB C.f 0 268435456 = true then 0 else 3
  else 3
structure CfOk (C : Cf) : Prop where
  r : 0 ≤ C.r ∧ C.r ≤ 1048576
  m : 0 ≤ C.m ∧ C.m ≤ 268435456
  d : McOk C.dx C.dy
  q : McOk C.qx C.qy
  p : 1 ≤ C.p ∧ C.p ≤ 64
  s : 1 ≤ C.s ∧ C.s ≤ 1099511627776
  f : 0 ≤ C.f ∧ C.f ≤ 268435456
theorem wiB_iff {n lo hi : Int} : wiB n lo hi = true ↔ lo ≤ n ∧ n ≤ hi := by unfold wiB; exact decide_eq_true_iff
theorem cf_ok {C : Cf} (h : cfCode C = 0) : CfOk C := by
  unfold cfCode at h
  split at h
  · rename_i h1
    split at h
    · contradiction
    split at h
    · contradiction
    split at h
    · rename_i h2 h3 h4
      exact ⟨wiB_iff.1 h1.1, wiB_iff.1 h1.2, mc_ok (by omega), mc_ok (by omega), wiB_iff.1 h4.1, wiB_iff.1 h4.2.1, wiB_iff.1 h4.2.2⟩
    · omega
  · omega
/-- The curves of a configuration lie below block B. -/
structure Ly (w : World) (B : Nat) (C : Cf) (A1 A2 A3 A4 : Option Addr) (n1 n2 n3 n4 : Nat) : Prop where
  s1 : Sl w B 1 A1 (rows C.dx)
  s2 : Sl w B 1 A2 (rows C.dy)
  s3 : Sl w B 1 A3 (rows C.qx)
  s4 : Sl w B 1 A4 (rows C.qy)
  e1 : n1 = C.dx.length
  e2 : n2 = C.dy.length
  e3 : n3 = C.qx.length
  e4 : n4 = C.qy.length
section
variable {w w' : World} {B B' : Nat} {C : Cf} {A1 A2 A3 A4 : Option Addr} {n1 n2 n3 n4 : Nat}
theorem Ly.below (h : Ly w B C A1 A2 A3 A4 n1 n2 n3 n4) (hb : Below B w w') : Ly w' B C A1 A2 A3 A4 n1 n2 n3 n4 := ⟨h.s1.below hb, h.s2.below hb, h.s3.below hb, h.s4.below hb, h.e1, h.e2, h.e3, h.e4⟩
theorem Ly.more (h : Ly w B C A1 A2 A3 A4 n1 n2 n3 n4) (hb : B ≤ B') : Ly w B' C A1 A2 A3 A4 n1 n2 n3 n4 := ⟨h.s1.more hb, h.s2.more hb, h.s3.more hb, h.s4.more hb, h.e1, h.e2, h.e3, h.e4⟩
theorem Ly.alloc (h : Ly w B C A1 A2 A3 A4 n1 n2 n3 n4) (hB : B ≤ w.heap.size) (o : Obj) : Ly (w.alloc o) B C A1 A2 A3 A4 n1 n2 n3 n4 := ⟨h.s1.alloc hB o, h.s2.alloc hB o, h.s3.alloc hB o, h.s4.alloc hB o, h.e1, h.e2, h.e3, h.e4⟩
/-- To the world behind: all that lies in it. -/
theorem Ly.to (h : Ly w w.heap.size C A1 A2 A3 A4 n1 n2 n3 n4) (hb : Below w.heap.size w w') : Ly w' w'.heap.size C A1 A2 A3 A4 n1 n2 n3 n4 := (h.below hb).more hb.size
theorem Ly.new (h : Ly w w.heap.size C A1 A2 A3 A4 n1 n2 n3 n4) (o : Obj) : Ly (w.alloc o) (w.alloc o).heap.size C A1 A2 A3 A4 n1 n2 n3 n4 := (h.alloc (Nat.le_refl _) o).more (by simp)
theorem Ly.drew (h : Ly w B C A1 A2 A3 A4 n1 n2 n3 n4) : Ly w.drew B C A1 A2 A3 A4 n1 n2 n3 n4 := ⟨h.s1.keep fun _ _ => rfl, h.s2.keep fun _ _ => rfl, h.s3.keep fun _ _ => rfl, h.s4.keep fun _ _ => rfl, h.e1, h.e2, h.e3, h.e4⟩
theorem Ly.drewN (h : Ly w B C A1 A2 A3 A4 n1 n2 n3 n4) (k : Nat) : Ly (w.drewN k) B C A1 A2 A3 A4 n1 n2 n3 n4 := ⟨h.s1.keep fun _ _ => rfl, h.s2.keep fun _ _ => rfl, h.s3.keep fun _ _ => rfl, h.s4.keep fun _ _ => rfl, h.e1, h.e2, h.e3, h.e4⟩
/-- Where the configuration is right: no pointer is nil, and the curves' rows are as long as each other. -/
theorem Ly.ptrs (h : Ly w B C A1 A2 A3 A4 n1 n2 n3 n4) (ok : CfOk C) : ∃ a1 a2 a3 a4, A1 = some a1 ∧ A2 = some a2 ∧ A3 = some a3 ∧ A4 = some a4 ∧ n2 = n1 ∧ n4 = n3 := by
  have k1 := ok.d.ok.two
  have k2 := ok.d.ok.len
  have k3 := ok.q.ok.two
  have k4 := ok.q.ok.len
  obtain ⟨a1, p1⟩ := h.s1.ptr (by omega)
  obtain ⟨a2, p2⟩ := h.s2.ptr (by omega)
  obtain ⟨a3, p3⟩ := h.s3.ptr (by omega)
  obtain ⟨a4, p4⟩ := h.s4.ptr (by omega)
  exact ⟨a1, a2, a3, a4, p1, p2, p3, p4, by rw [h.e1, h.e2, k2], by rw [h.e3, h.e4, k4]⟩
end
set_option maxRecDepth 100000 in
set_option maxHeartbeats 3200000 in
theorem chkM (C : Cf) (A1 A2 A3 A4 : Option Addr) (n1 n2 n3 n4 c1 c2 c3 c4 : Nat) (w : World) (L : Ly w w.heap.size C A1 A2 A3 A4 n1 n2 n3 n4) :
    Calls Try.prog 17 #[.agg #[.int .i64 C.r, .int .i64 C.m, .slice A1 n1 c1, .slice A2 n2 c2, .slice A3 n3 c3, .slice A4 n4 c4, .int .i64 C.p, .int .i64 C.s, .int .i64 C.f]] w fun e w' => e = .returned (errV (cfCode C)) ∧ Below w.heap.size w w' := by
  have hck1 := fun (W : World) (h : Ly W W.heap.size C A1 A2 A3 A4 n1 n2 n3 n4) => mcheck_walk C.dx C.dy A1 A2 n1 n2 c1 c2 W h.s1 h.s2 h.e1 h.e2
  have hck2 := fun (W : World) (h : Ly W W.heap.size C A1 A2 A3 A4 n1 n2 n3 n4) => mcheck_walk C.qx C.qy A3 A4 n3 n4 c3 c4 W h.s3 h.s4 h.e3 h.e4
  obtain ⟨d1, hd1⟩ : ∃ x, mcCode C.dx C.dy = x := ⟨_, rfl⟩
  obtain ⟨d2, hd2⟩ : ∃ x, mcCode C.qx C.qy = x := ⟨_, rfl⟩
  simp only [hd1] at hck1
  simp only [hd2] at hck2
  have HV : Hid (cfCode C = if wiB C.r 0 1048576 = true ∧ wiB C.m 0 268435456 = true then if d1 ≠ 0 then d1 else if d2 ≠ 0 then d2 else if wiB C.p 1 64 = true ∧ wiB C.s 1 1099511627776 = true ∧ wiB C.f 0 268435456 = true then 0 else 3 else 3) := by
    rw [← hd1, ← hd2]
    exact (rfl : cfCode C = _)
  clear hd1 hd2
  have hb0 := (Below.refl w.heap.size w).alloc (Nat.le_refl _) (.cells #[.int .i64 C.r, .int .i64 C.m, .slice A1 n1 c1, .slice A2 n2 c2, .slice A3 n3 c3, .slice A4 n4 c4, .int .i64 C.p, .int .i64 C.s, .int .i64 C.f] 26)
  have g0 := Blk.new w 26 #[.int .i64 C.r, .int .i64 C.m, .slice A1 n1 c1, .slice A2 n2 c2, .slice A3 n3 c3, .slice A4 n4 c4, .int .i64 C.p, .int .i64 C.s, .int .i64 C.f]
  have L0 := L.new (.cells #[.int .i64 C.r, .int .i64 C.m, .slice A1 n1 c1, .slice A2 n2 c2, .slice A3 n3 c3, .slice A4 n4 c4, .int .i64 C.p, .int .i64 C.s, .int .i64 C.f] 26)
  go_enter Try.func17, Try.ntmps17
  rcases Bool.eq_false_or_eq_true (wiB C.r 0 1048576) with q1 | q1
  case inr =>
    go_wp2_with (first | (go_at_call 41; refine (wiM _ _ _ _).mono ?_; rintro e w' ⟨rfl, rfl⟩))
    go_ret
    exact ⟨by rw [HV.out, if_neg (by rw [q1]; simp)]; rfl, hb0⟩
  rcases Bool.eq_false_or_eq_true (wiB C.m 0 268435456) with q2 | q2
  case inr =>
    go_wp2_with (first | (go_at_call 41; refine (wiM _ _ _ _).mono ?_; rintro e w' ⟨rfl, rfl⟩))
    go_ret
    exact ⟨by rw [HV.out, if_neg (by rw [q2]; simp)]; rfl, hb0⟩
  by_cases e1 : d1 = 0
  case neg =>
    have ev := errV_ne e1
    simp only [ev] at hck1
    have HCK := hide hck1
    clear hck1 hck2
    go_wp2_with (first | (go_at_call 41; refine (wiM _ _ _ _).mono ?_; rintro e w' ⟨rfl, rfl⟩))
    refine ((unhide HCK) _ L0).mono ?_
    rintro e w1 ⟨rfl, hb1⟩
    go_wp2
    go_ret
    exact ⟨by rw [HV.out, if_pos ⟨q1, q2⟩, if_pos e1, ev]; rfl, hb0.trans (hb1.mono hb0.size)⟩
  subst e1
  simp only [errV_zero] at hck1
  have HCK1 := hide hck1
  clear hck1
  by_cases e2 : d2 = 0
  case neg =>
    have ev := errV_ne e2
    simp only [ev] at hck2
    have HCK2 := hide hck2
    clear hck2
    go_wp2_with (first | (go_at_call 41; refine (wiM _ _ _ _).mono ?_; rintro e w' ⟨rfl, rfl⟩))
    refine ((unhide HCK1) _ L0).mono ?_
    rintro e w1 ⟨rfl, hb1⟩
    have HB1 := hb0.trans (hb1.mono hb0.size)
    have g1 := g0.below hb1 g0.lt
    have l1 := g1.lt
    have L1 := L0.to hb1
    obtain ⟨z0, z1, z2, z3, z4, z5, z6, z7, z8⟩ := g1.c9
    go_wp2_with fail
    refine ((unhide HCK2) _ L1).mono ?_
    rintro e w2 ⟨rfl, hb2⟩
    go_wp2
    go_ret
    exact ⟨by rw [HV.out, if_pos ⟨q1, q2⟩, if_neg (by simp), if_pos e2, ev]; rfl, HB1.trans (hb2.mono HB1.size)⟩
  subst e2
  simp only [errV_zero] at hck2
  have HCK2 := hide hck2
  clear hck2
  go_wp2_with (first | (go_at_call 41; refine (wiM _ _ _ _).mono ?_; rintro e w' ⟨rfl, rfl⟩))
  refine ((unhide HCK1) _ L0).mono ?_
  rintro e w1 ⟨rfl, hb1⟩
  have HB1 := hb0.trans (hb1.mono hb0.size)
  have g1 := g0.below hb1 g0.lt
  have l1 := g1.lt
  have L1 := L0.to hb1
  obtain ⟨z0, z1, z2, z3, z4, z5, z6, z7, z8⟩ := g1.c9
  go_wp2_with fail
  refine ((unhide HCK2) _ L1).mono ?_
  rintro e w2 ⟨rfl, hb2⟩
  have HB2 := HB1.trans (hb2.mono HB1.size)
  have g2 := g1.below hb2 g1.lt
  have l2 := g2.lt
  clear z0 z1 z2 z3 z4 z5 z6 z7 z8
  obtain ⟨z0, z1, z2, z3, z4, z5, z6, z7, z8⟩ := g2.c9
  rcases Bool.eq_false_or_eq_true (wiB C.p 1 64) with q3 | q3
  case inr =>
    go_wp2_with (first | (go_at_call 41; refine (wiM _ _ _ _).mono ?_; rintro e w' ⟨rfl, rfl⟩))
    go_ret
    exact ⟨by rw [HV.out, if_pos ⟨q1, q2⟩, if_neg (by simp), if_neg (by simp), if_neg (by rw [q3]; simp)]; rfl, HB2⟩
  rcases Bool.eq_false_or_eq_true (wiB C.s 1 1099511627776) with q4 | q4
  case inr =>
    go_wp2_with (first | (go_at_call 41; refine (wiM _ _ _ _).mono ?_; rintro e w' ⟨rfl, rfl⟩))
    go_ret
    exact ⟨by rw [HV.out, if_pos ⟨q1, q2⟩, if_neg (by simp), if_neg (by simp), if_neg (by rw [q4]; simp)]; rfl, HB2⟩
  rcases Bool.eq_false_or_eq_true (wiB C.f 0 268435456) with q5 | q5
  case inr =>
    go_wp2_with (first | (go_at_call 41; refine (wiM _ _ _ _).mono ?_; rintro e w' ⟨rfl, rfl⟩))
    go_ret
    exact ⟨by rw [HV.out, if_pos ⟨q1, q2⟩, if_neg (by simp), if_neg (by simp), if_neg (by rw [q5]; simp)]; rfl, HB2⟩
  go_wp2_with (first | (go_at_call 41; refine (wiM _ _ _ _).mono ?_; rintro e w' ⟨rfl, rfl⟩))
  go_ret
  exact ⟨by rw [HV.out, if_pos ⟨q1, q2⟩, if_neg (by simp), if_neg (by simp), if_pos ⟨q3, q4, q5⟩]; rfl, HB2⟩
set_option maxRecDepth 100000 in
set_option maxHeartbeats 3200000 in
theorem chkR (C : Cf) (A1 A2 A3 A4 : Option Addr) (n1 n2 n3 n4 c1 c2 c3 c4 : Nat) (w : World) (L : Ly w w.heap.size C A1 A2 A3 A4 n1 n2 n3 n4) :
    Calls Try.prog 14 #[.agg #[.int .i64 C.r, .int .i64 C.m, .slice A1 n1 c1, .slice A2 n2 c2, .slice A3 n3 c3, .slice A4 n4 c4, .int .i64 C.p, .int .i64 C.s, .int .i64 C.f]] w fun e w' => e = .returned (.int .i64 (cfCode C)) ∧ Below w.heap.size w w' := by
  have hck1 := fun (W : World) (h : Ly W W.heap.size C A1 A2 A3 A4 n1 n2 n3 n4) => rcurve_walk C.dx C.dy A1 A2 n1 n2 c1 c2 W h.s1 h.s2 h.e1 h.e2
  have hck2 := fun (W : World) (h : Ly W W.heap.size C A1 A2 A3 A4 n1 n2 n3 n4) => rcurve_walk C.qx C.qy A3 A4 n3 n4 c3 c4 W h.s3 h.s4 h.e3 h.e4
  obtain ⟨d1, hd1⟩ : ∃ x, mcCode C.dx C.dy = x := ⟨_, rfl⟩
  obtain ⟨d2, hd2⟩ : ∃ x, mcCode C.qx C.qy = x := ⟨_, rfl⟩
  simp only [hd1] at hck1
  simp only [hd2] at hck2
  have HV : Hid (cfCode C = if wiB C.r 0 1048576 = true ∧ wiB C.m 0 268435456 = true then if d1 ≠ 0 then d1 else if d2 ≠ 0 then d2 else if wiB C.p 1 64 = true ∧ wiB C.s 1 1099511627776 = true ∧ wiB C.f 0 268435456 = true then 0 else 3 else 3) := by
    rw [← hd1, ← hd2]
    exact (rfl : cfCode C = _)
  clear hd1 hd2
  have hb0 := (Below.refl w.heap.size w).alloc (Nat.le_refl _) (.cells #[.int .i64 C.r, .int .i64 C.m, .slice A1 n1 c1, .slice A2 n2 c2, .slice A3 n3 c3, .slice A4 n4 c4, .int .i64 C.p, .int .i64 C.s, .int .i64 C.f] 26)
  have g0 := Blk.new w 26 #[.int .i64 C.r, .int .i64 C.m, .slice A1 n1 c1, .slice A2 n2 c2, .slice A3 n3 c3, .slice A4 n4 c4, .int .i64 C.p, .int .i64 C.s, .int .i64 C.f]
  have L0 := L.new (.cells #[.int .i64 C.r, .int .i64 C.m, .slice A1 n1 c1, .slice A2 n2 c2, .slice A3 n3 c3, .slice A4 n4 c4, .int .i64 C.p, .int .i64 C.s, .int .i64 C.f] 26)
  go_enter Try.func14, Try.ntmps14
  rcases Bool.eq_false_or_eq_true (wiB C.r 0 1048576) with q1 | q1
  case inr =>
    go_wp2_with (first | (go_at_call 38; refine (wiR _ _ _ _).mono ?_; rintro e w' ⟨rfl, rfl⟩))
    go_ret
    exact ⟨by rw [HV.out, if_neg (by rw [q1]; simp)]; rfl, hb0⟩
  rcases Bool.eq_false_or_eq_true (wiB C.m 0 268435456) with q2 | q2
  case inr =>
    go_wp2_with (first | (go_at_call 38; refine (wiR _ _ _ _).mono ?_; rintro e w' ⟨rfl, rfl⟩))
    go_ret
    exact ⟨by rw [HV.out, if_neg (by rw [q2]; simp)]; rfl, hb0⟩
  by_cases e1 : d1 = 0
  case neg =>
    have HCK := hide hck1
    clear hck1 hck2
    go_wp2_with (first | (go_at_call 38; refine (wiR _ _ _ _).mono ?_; rintro e w' ⟨rfl, rfl⟩))
    refine ((unhide HCK) _ L0).mono ?_
    rintro e w1 ⟨rfl, hb1⟩
    go_wp2
    go_ret
    exact ⟨by rw [HV.out, if_pos ⟨q1, q2⟩, if_pos e1]; rfl, hb0.trans (hb1.mono hb0.size)⟩
  subst e1
  have HCK1 := hide hck1
  clear hck1
  by_cases e2 : d2 = 0
  case neg =>
    have HCK2 := hide hck2
    clear hck2
    go_wp2_with (first | (go_at_call 38; refine (wiR _ _ _ _).mono ?_; rintro e w' ⟨rfl, rfl⟩))
    refine ((unhide HCK1) _ L0).mono ?_
    rintro e w1 ⟨rfl, hb1⟩
    have HB1 := hb0.trans (hb1.mono hb0.size)
    have g1 := g0.below hb1 g0.lt
    have l1 := g1.lt
    have L1 := L0.to hb1
    obtain ⟨z0, z1, z2, z3, z4, z5, z6, z7, z8⟩ := g1.c9
    go_wp2_with fail
    refine ((unhide HCK2) _ L1).mono ?_
    rintro e w2 ⟨rfl, hb2⟩
    go_wp2
    go_ret
    exact ⟨by rw [HV.out, if_pos ⟨q1, q2⟩, if_neg (by simp), if_pos e2]; rfl, HB1.trans (hb2.mono HB1.size)⟩
  subst e2
  have HCK2 := hide hck2
  clear hck2
  go_wp2_with (first | (go_at_call 38; refine (wiR _ _ _ _).mono ?_; rintro e w' ⟨rfl, rfl⟩))
  refine ((unhide HCK1) _ L0).mono ?_
  rintro e w1 ⟨rfl, hb1⟩
  have HB1 := hb0.trans (hb1.mono hb0.size)
  have g1 := g0.below hb1 g0.lt
  have l1 := g1.lt
  have L1 := L0.to hb1
  obtain ⟨z0, z1, z2, z3, z4, z5, z6, z7, z8⟩ := g1.c9
  go_wp2_with fail
  refine ((unhide HCK2) _ L1).mono ?_
  rintro e w2 ⟨rfl, hb2⟩
  have HB2 := HB1.trans (hb2.mono HB1.size)
  have g2 := g1.below hb2 g1.lt
  have l2 := g2.lt
  clear z0 z1 z2 z3 z4 z5 z6 z7 z8
  obtain ⟨z0, z1, z2, z3, z4, z5, z6, z7, z8⟩ := g2.c9
  rcases Bool.eq_false_or_eq_true (wiB C.p 1 64) with q3 | q3
  case inr =>
    go_wp2_with (first | (go_at_call 38; refine (wiR _ _ _ _).mono ?_; rintro e w' ⟨rfl, rfl⟩))
    go_ret
    exact ⟨by rw [HV.out, if_pos ⟨q1, q2⟩, if_neg (by simp), if_neg (by simp), if_neg (by rw [q3]; simp)]; rfl, HB2⟩
  rcases Bool.eq_false_or_eq_true (wiB C.s 1 1099511627776) with q4 | q4
  case inr =>
    go_wp2_with (first | (go_at_call 38; refine (wiR _ _ _ _).mono ?_; rintro e w' ⟨rfl, rfl⟩))
    go_ret
    exact ⟨by rw [HV.out, if_pos ⟨q1, q2⟩, if_neg (by simp), if_neg (by simp), if_neg (by rw [q4]; simp)]; rfl, HB2⟩
  rcases Bool.eq_false_or_eq_true (wiB C.f 0 268435456) with q5 | q5
  case inr =>
    go_wp2_with (first | (go_at_call 38; refine (wiR _ _ _ _).mono ?_; rintro e w' ⟨rfl, rfl⟩))
    go_ret
    exact ⟨by rw [HV.out, if_pos ⟨q1, q2⟩, if_neg (by simp), if_neg (by simp), if_neg (by rw [q5]; simp)]; rfl, HB2⟩
  go_wp2_with (first | (go_at_call 38; refine (wiR _ _ _ _).mono ?_; rintro e w' ⟨rfl, rfl⟩))
  go_ret
  exact ⟨by rw [HV.out, if_pos ⟨q1, q2⟩, if_neg (by simp), if_neg (by simp), if_pos ⟨q3, q4, q5⟩]; rfl, HB2⟩
end Go.Proofs.Ytmmplfokidnpnaa
