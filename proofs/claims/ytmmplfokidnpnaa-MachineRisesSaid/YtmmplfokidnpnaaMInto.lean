/- The walks of into and off, and of the reference's Normal. -/
import Derived.Test.YtmmplfokidnpnaaMCfg
import Derived.OwnWalk
import Derived.Deep.RegionHeld3
namespace Go.Proofs.Ytmmplfokidnpnaa
open Go.RowKit
/-- A number, moved into the range of a curve. -/
def inX (X : List Int) (x : Int) : Int := clipI x (g X 0) (g X (X.length - 1))
/-- The deviation of a flux. -/
def devD (C : Cf) (d : Int) : Int := inX C.dx (clipI d (-1073741824) 1073741824 - C.m)
def devQ (C : Cf) (q : Int) : Int := inX C.qx (clipI q (-1073741824) 1073741824)
theorem mc_ends {X Y : List Int} (h : McOk X Y) : -268435456 ≤ g X 0 ∧ g X 0 < 0 ∧ 0 < g X (X.length - 1) ∧ g X (X.length - 1) ≤ 268435456 := by
  have h2 := h.ok.two
  have b0 := h.bd 0 (by omega)
  have bl := h.bd (X.length - 1) (by omega)
  exact ⟨b0.1, h.lo, h.hi, bl.2.1⟩
theorem inX_bd {X Y : List Int} (h : McOk X Y) (x : Int) : -268435456 ≤ inX X x ∧ inX X x ≤ 268435456 := by
  have h1 := mc_ends h
  have h2 := clipI_in x (g X 0) (g X (X.length - 1)) (by omega)
  unfold inX
  omega
theorem inX_in {X Y : List Int} (h : McOk X Y) (x : Int) : g X 0 ≤ inX X x ∧ inX X x ≤ g X (X.length - 1) := by
  have h1 := mc_ends h
  exact clipI_in x (g X 0) (g X (X.length - 1)) (by omega)
theorem inX_same {X : List Int} {x : Int} (h1 : g X 0 ≤ x) (h2 : x ≤ g X (X.length - 1)) : inX X x = x := by
  unfold inX clipI
  rw [if_neg (by omega), if_neg (by omega)]
theorem quiet_left {P : Program} {f : FuncId} {args : Array Value} {w : World} {n : Nat} {v : Value}
    (h : Calls P f args (w.drewN n) fun e w' => e = .returned v ∧ w.drewN n = w') : Calls P f args (w.drewN n) fun e w'' => e = .returned v ∧ ∃ m, w'' = w.drewN m :=
  h.mono fun _ _ ⟨he, hm⟩ => ⟨he, n, hm.symm⟩
set_option maxRecDepth 100000 in
theorem intoM (X Y : List Int) (ax ay : Addr) (n cX cY : Nat) (x : Int) (w : World) (SX : Sl w w.heap.size 1 (some ax) (rows X)) (hn : n = X.length) (ok : McOk X Y) :
    Calls Try.prog 67 #[.agg #[.slice (some ax) n cX, .slice (some ay) n cY], .int .i64 x] w fun e w' => e = .returned (.int .i64 (inX X x)) ∧ Below w.heap.size w w' := by
  have hb0 := (Below.refl w.heap.size w).alloc (Nat.le_refl _) (.cells #[.slice (some ax) n cX, .slice (some ay) n cY] 24)
  have sx0 := (SX.alloc (Nat.le_refl _) (.cells #[.slice (some ax) n cX, .slice (some ay) n cY] 24)).more (show w.heap.size ≤ (w.alloc (.cells #[.slice (some ax) n cX, .slice (some ay) n cY] 24)).heap.size by simp)
  have g0 := Blk.new w 24 #[.slice (some ax) n cX, .slice (some ay) n cY]
  have h2 := ok.ok.two
  have he := mc_ends ok
  obtain ⟨pf, pfa, pfb, f0⟩ := sx0.at1' (k := 0) (by omega)
  obtain ⟨pl, pla, plb, z0⟩ := sx0.at1' (k := n - 1) (by omega)
  have hn2 : 2 ≤ n := by omega
  have hn3 : n ≤ 32 := by have := ok.ok.most; omega
  have il : ((n : Int) - 1).toNat = n - 1 := by omega
  have hi1 : (0 : Int) < (n : Int) := by omega
  have hi2 : (0 : Int) ≤ (n : Int) - 1 := by omega
  have hi3 : (n : Int) - 1 < (n : Int) := by omega
  have hi4 : IntKind.i64.wrap ((n : Int) - 1) = (n : Int) - 1 := IntWalk.i64_in _ (by omega)
  rw [← hn] at he
  have hv : inX X x = clipI x (g X 0) (g X (n - 1)) := by unfold inX; rw [← hn]
  rw [hv]
  obtain ⟨x0, hx0⟩ : ∃ x, g X 0 = x := ⟨_, rfl⟩
  obtain ⟨xl, hxl⟩ : ∃ x, g X (n - 1) = x := ⟨_, rfl⟩
  rw [hx0] at f0 he ⊢
  rw [hxl] at z0 he ⊢
  have hc := fun W => clipM x x0 xl (by omega) W
  have HC := hide hc
  clear hx0 hxl ok h2 hn hc hv
  obtain ⟨y0, y1⟩ := g0.c2
  go_enter Try.func67, Try.ntmps67
  go_wp2
  go_quiet ((go_at_call 45; exact quiet_left ((unhide HC) _)))
  go_wp2
  go_ret
  exact ⟨rfl, below_drewN hb0 _⟩
theorem clip_q (n lo hi : Int) (h : lo ≤ hi) (w : World) : Calls Try.prog 45 #[.int .i64 n, .int .i64 lo, .int .i64 hi] w fun e w' => e = .returned (.int .i64 (clipI n lo hi)) ∧ w' = w :=
  (clipM n lo hi h w).mono fun _ _ ⟨he, hw⟩ => ⟨he, hw.symm⟩
/-- A configuration and a flux in memory. -/
structure OS (w0 w : World) (C : Cf) (a1 a2 a3 a4 : Addr) (n k c1 c2 c3 c4 : Nat) (fd fq : Int) : Prop where
  p : Blk w w0.heap.size 26 #[.int .i64 C.r, .int .i64 C.m, .slice (some a1) n c1, .slice (some a2) n c2, .slice (some a3) k c3, .slice (some a4) k c4, .int .i64 C.p, .int .i64 C.s, .int .i64 C.f]
  q : Blk w (w0.heap.size + 1) 31 #[.int .i64 fd, .int .i64 fq]
  b : Below w0.heap.size w0 w
  l : Ly w w0.heap.size C (some a1) (some a2) (some a3) (some a4) n n k k
section
variable {w0 w w' : World} {C : Cf} {a1 a2 a3 a4 : Addr} {n k c1 c2 c3 c4 : Nat} {fd fq : Int}
theorem OS.all (h : OS w0 w C a1 a2 a3 a4 n k c1 c2 c3 c4 fd fq) : OS w0 w C a1 a2 a3 a4 n k c1 c2 c3 c4 fd fq ∧ w.cell? ⟨w0.heap.size, 4, none⟩ = some (.slice (some a3) k c3) ∧ w.cell? ⟨w0.heap.size, 5, none⟩ = some (.slice (some a4) k c4) ∧ w.cell? ⟨w0.heap.size + 1, 1, none⟩ = some (.int .i64 fq) := ⟨h, h.p.cell 4, h.p.cell 5, h.q.cell 1⟩
theorem OS.drew (h : OS w0 w C a1 a2 a3 a4 n k c1 c2 c3 c4 fd fq) : OS w0 w.drew C a1 a2 a3 a4 n k c1 c2 c3 c4 fd fq := ⟨h.p.drew, h.q.drew, h.b.drew, h.l.drew⟩
theorem OS.one {Q : Prop} (h : OS w0 w C a1 a2 a3 a4 n k c1 c2 c3 c4 fd fq ∧ Q) : OS w0 w C a1 a2 a3 a4 n k c1 c2 c3 c4 fd fq := h.1
theorem OS.below (hb : Below w.heap.size w w') (h : OS w0 w C a1 a2 a3 a4 n k c1 c2 c3 c4 fd fq) : OS w0 w' C a1 a2 a3 a4 n k c1 c2 c3 c4 fd fq := ⟨h.p.below hb h.p.lt, h.q.below hb h.q.lt, h.b.trans (hb.mono h.b.size), h.l.below (hb.mono h.b.size)⟩
theorem OS.ly (h : OS w0 w C a1 a2 a3 a4 n k c1 c2 c3 c4 fd fq) : Ly w w.heap.size C (some a1) (some a2) (some a3) (some a4) n n k k := h.l.more h.b.size
end
set_option maxRecDepth 100000 in
set_option maxHeartbeats 1600000 in
theorem offM (C : Cf) (a1 a2 a3 a4 : Addr) (n k c1 c2 c3 c4 : Nat) (fd fq : Int) (w : World) (L : Ly w w.heap.size C (some a1) (some a2) (some a3) (some a4) n n k k) (ok : CfOk C) :
    Calls Try.prog 43 #[.agg #[.int .i64 C.r, .int .i64 C.m, .slice (some a1) n c1, .slice (some a2) n c2, .slice (some a3) k c3, .slice (some a4) k c4, .int .i64 C.p, .int .i64 C.s, .int .i64 C.f], .agg #[.int .i64 fd, .int .i64 fq]] w fun e w' => e = .returned (.tuple #[.int .i64 (devD C fd), .int .i64 (devQ C fq)]) ∧ Below w.heap.size w w' := by
  have g0 := (Blk.new w 26 #[.int .i64 C.r, .int .i64 C.m, .slice (some a1) n c1, .slice (some a2) n c2, .slice (some a3) k c3, .slice (some a4) k c4, .int .i64 C.p, .int .i64 C.s, .int .i64 C.f]).alloc (.cells #[.int .i64 fd, .int .i64 fq] 31)
  have g1 := Blk.new (w.alloc (.cells #[.int .i64 C.r, .int .i64 C.m, .slice (some a1) n c1, .slice (some a2) n c2, .slice (some a3) k c3, .slice (some a4) k c4, .int .i64 C.p, .int .i64 C.s, .int .i64 C.f] 26)) 31 #[.int .i64 fd, .int .i64 fq]
  have hb0 := ((Below.refl w.heap.size w).alloc (Nat.le_refl _) (.cells #[.int .i64 C.r, .int .i64 C.m, .slice (some a1) n c1, .slice (some a2) n c2, .slice (some a3) k c3, .slice (some a4) k c4, .int .i64 C.p, .int .i64 C.s, .int .i64 C.f] 26)).alloc (by simp) (.cells #[.int .i64 fd, .int .i64 fq] 31)
  have L0 := (L.new (.cells #[.int .i64 C.r, .int .i64 C.m, .slice (some a1) n c1, .slice (some a2) n c2, .slice (some a3) k c3, .slice (some a4) k c4, .int .i64 C.p, .int .i64 C.s, .int .i64 C.f] 26)).new (.cells #[.int .i64 fd, .int .i64 fq] 31)
  have hi1 := fun (x : Int) (W : World) (h : Ly W W.heap.size C (some a1) (some a2) (some a3) (some a4) n n k k) => intoM C.dx C.dy a1 a2 n c1 c2 x W h.s1 h.e1 ok.d
  have hi2 := fun (x : Int) (W : World) (h : Ly W W.heap.size C (some a1) (some a2) (some a3) (some a4) n n k k) => intoM C.qx C.qy a3 a4 k c3 c4 x W h.s3 h.e3 ok.q
  have hc1 := clipI_in fd (-1073741824) 1073741824 (by omega)
  have hm := ok.m
  have q1 := fun W => clip_q fd (-1073741824) 1073741824 (by omega) W
  have q2 := fun W => clip_q fq (-1073741824) 1073741824 (by omega) W
  have hv1 : devD C fd = inX C.dx (clipI fd (-1073741824) 1073741824 - C.m) := rfl
  have hv2 : devQ C fq = inX C.qx (clipI fq (-1073741824) 1073741824) := rfl
  rw [hv1, hv2]
  obtain ⟨kd, hkd⟩ : ∃ x, clipI fd (-1073741824) 1073741824 = x := ⟨_, rfl⟩
  obtain ⟨kq, hkq⟩ : ∃ x, clipI fq (-1073741824) 1073741824 = x := ⟨_, rfl⟩
  simp only [hkd] at q1 hc1 ⊢
  simp only [hkq] at q2 ⊢
  have hs : IntKind.i64.wrap (kd - C.m) = kd - C.m := IntWalk.i64_in _ (by omega)
  have H1 := hide hi1
  have H2 := hide hi2
  have Q1 := hide q1
  have Q2 := hide q2
  clear hi1 hi2 q1 q2 hkd hkq hv1 hv2 ok
  obtain ⟨y0, y1, y2, y3, y4, y5, y6, y7, y8⟩ := g0.c9
  obtain ⟨z0, z1⟩ := g1.c2
  go_enter Try.func43, Try.ntmps43
  go_wp2
  obtain ⟨W, hW⟩ : ∃ W, ((w.alloc (.cells #[.int .i64 C.r, .int .i64 C.m, .slice (some a1) n c1, .slice (some a2) n c2, .slice (some a3) k c3, .slice (some a4) k c4, .int .i64 C.p, .int .i64 C.s, .int .i64 C.f] 26)).alloc (.cells #[.int .i64 fd, .int .i64 fq] 31)) = W := ⟨_, rfl⟩
  rw [hW] at g0 hb0 L0 y0 y1 y2 y3 y4 y5 y6 y7 y8
  have g1' : Blk W (w.heap.size + 1) 31 #[.int .i64 fd, .int .i64 fq] := by rw [← hW]; exact Blk.new' (by simp)
  clear g1 z0 z1
  obtain ⟨z0, z1⟩ := g1'.c2
  simp only [hW]
  clear hW
  refine wp_region_still_tail 8 (by kernel_rfl) (by kernel_rfl) ?_
  simp only [List.take_succ_cons, List.take_zero, List.drop_succ_cons, List.drop_zero]
  repeat still_step
  still_call ((unhide Q1) _)
  repeat still_step
  refine wpStill_nil ?_
  change wpList _ _ _ _ _ W.drew
  go_wp2_with fail
  refine ((unhide H1) _ _ L0.drew).mono ?_
  rintro e w1 ⟨rfl, hb1⟩
  have HB1 := hb0.drew.trans (hb1.mono hb0.size)
  have L1 := L0.drew.to hb1
  have p0 := g0.drew.below hb1 g0.lt
  have p1 := g1'.drew.below hb1 g1'.lt
  have l1 := p1.lt
  clear y0 y1 y2 y3 y4 y5 y6 y7 y8 z0 z1
  obtain ⟨y0, y1, y2, y3, y4, y5, y6, y7, y8⟩ := p0.c9
  obtain ⟨z0, z1⟩ := p1.c2
  go_wp2
  have has : OS w w1 C a1 a2 a3 a4 n k c1 c2 c3 c4 fd fq := ⟨p0, p1, HB1, L.below HB1⟩
  go_region_held3 (fun w' => OS w w' C a1 a2 a3 a4 n k c1 c2 c3 c4 fd fq ∧ w'.cell? ⟨w.heap.size, 4, none⟩ = some (.slice (some a3) k c3) ∧ w'.cell? ⟨w.heap.size, 5, none⟩ = some (.slice (some a4) k c4) ∧ w'.cell? ⟨w.heap.size + 1, 1, none⟩ = some (.int .i64 fq))
    (first | (refine OS.all ?_; repeat (first | with_reducible exact has | with_reducible exact hasF | with_reducible refine OS.drew ?_)))
    (first | (go_at_call 45; refine ((unhide Q2) _).mono ?_; rintro e wF ⟨rfl, rfl⟩) | (go_at_call 67; refine ((unhide H2) _ _ (OS.ly (OS.one ‹OS w _ _ _ _ _ _ _ _ _ _ _ _ _ _ ∧ _›))).mono ?_; rintro e wF ⟨rfl, hbq⟩; have hasF := OS.below hbq (OS.one ‹OS w _ _ _ _ _ _ _ _ _ _ _ _ _ _ ∧ _›)))
  all_goals
    go_wp2
    go_ret2
    refine ⟨rfl, ?_⟩
    refine OS.b (C := C) (a1 := a1) (a2 := a2) (a3 := a3) (a4 := a4) (n := n) (k := k) (c1 := c1) (c2 := c2) (c3 := c3) (c4 := c4) (fd := fd) (fq := fq) ?_
    repeat (first | with_reducible exact hasF | with_reducible exact has | with_reducible refine OS.drew ?_)
end Go.Proofs.Ytmmplfokidnpnaa
