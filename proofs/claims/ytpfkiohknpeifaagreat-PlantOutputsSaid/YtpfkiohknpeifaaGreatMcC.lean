/- The walks of into and off, and of the reference's Normal. The walks of state and Start, and of the reference's Start. The walks of Currents, and of the reference's Normal and Currents. The walks of Torque, and of the reference's. The walks of square roots and lengths, and of the references. -/
import Derived.Test.YtpfkiohknpeifaaGreatMcB
import Derived.OwnWalk
import Derived.Deep.RegionHeld3
import Derived.Deep.RegionWith
namespace Go.Proofs.YtpfkiohknpeifaaGreat
open Go.RowKit
/-- A number, moved into the range of a curve. -/
def inX (X : List Int) (x : Int) : Int := clipI x (g X 0) (g X (X.length - 1))
/-- The deviation of a flux. -/
def devD (C : Cf) (d : Int) : Int := inX C.dx (clipI d (-1073741824) 1073741824 - C.m)
def devQ (C : Cf) (q : Int) : Int := inX C.qx (clipI q (-1073741824) 1073741824)
theorem mc_ends {X Y : List Int} (h : McOk X Y) : -268435456 ≤ g X 0 ∧ g X 0 < 0 ∧ 0 < g X (X.length - 1) ∧ g X (X.length - 1) ≤ 268435456 := by
  have h2 := h.ok.two
  have b0 := h.bd 0 (by omega)
  have bl := h.bd (X.length - 1) (by omega)
  exact ⟨b0.1, h.lo, h.hi, bl.2.1⟩
theorem inX_bd {X Y : List Int} (h : McOk X Y) (x : Int) : -268435456 ≤ inX X x ∧ inX X x ≤ 268435456 := by
  have h1 := mc_ends h
  have h2 := clipI_in x (g X 0) (g X (X.length - 1)) (by omega)
  unfold inX
  omega
theorem inX_in {X Y : List Int} (h : McOk X Y) (x : Int) : g X 0 ≤ inX X x ∧ inX X x ≤ g X (X.length - 1) := by
  have h1 := mc_ends h
  exact clipI_in x (g X 0) (g X (X.length - 1)) (by omega)
theorem inX_same {X : List Int} {x : Int} (h1 : g X 0 ≤ x) (h2 : x ≤ g X (X.length - 1)) : inX X x = x := by
  unfold inX clipI
  rw [if_neg (by omega), if_neg (by omega)]
theorem quiet_left {P : Program} {f : FuncId} {args : Array Value} {w : World} {n : Nat} {v : Value}
    (h : Calls P f args (w.drewN n) fun e w' => e = .returned v ∧ w.drewN n = w') : Calls P f args (w.drewN n) fun e w'' => e = .returned v ∧ ∃ m, w'' = w.drewN m :=
  h.mono fun _ _ ⟨he, hm⟩ => ⟨he, n, hm.symm⟩
set_option maxRecDepth 100000 in
theorem intoM (X Y : List Int) (ax ay : Addr) (n cX cY : Nat) (x : Int) (w : World) (SX : Sl w w.heap.size 1 (some ax) (rows X)) (hn : n = X.length) (ok : McOk X Y) :
    Calls Tryz.prog 123 #[.agg #[.slice (some ax) n cX, .slice (some ay) n cY], .int .i64 x] w fun e w' => e = .returned (.int .i64 (inX X x)) ∧ Below w.heap.size w w' := by
  have hb0 := (Below.refl w.heap.size w).alloc (Nat.le_refl _) (.cells #[.slice (some ax) n cX, .slice (some ay) n cY] 24)
  have sx0 := (SX.alloc (Nat.le_refl _) (.cells #[.slice (some ax) n cX, .slice (some ay) n cY] 24)).more (show w.heap.size ≤ (w.alloc (.cells #[.slice (some ax) n cX, .slice (some ay) n cY] 24)).heap.size by simp)
  have g0 := Blk.new w 24 #[.slice (some ax) n cX, .slice (some ay) n cY]
  have h2 := ok.ok.two
  have he := mc_ends ok
  obtain ⟨pf, pfa, pfb, f0⟩ := sx0.at1' (k := 0) (by omega)
  obtain ⟨pl, pla, plb, z0⟩ := sx0.at1' (k := n - 1) (by omega)
  have hn2 : 2 ≤ n := by omega
  have hn3 : n ≤ 32 := by have := ok.ok.most; omega
  have il : ((n : Int) - 1).toNat = n - 1 := by omega
  have hi1 : (0 : Int) < (n : Int) := by omega
  have hi2 : (0 : Int) ≤ (n : Int) - 1 := by omega
  have hi3 : (n : Int) - 1 < (n : Int) := by omega
  have hi4 : IntKind.i64.wrap ((n : Int) - 1) = (n : Int) - 1 := IntWalk.i64_in _ (by omega)
  rw [← hn] at he
  have hv : inX X x = clipI x (g X 0) (g X (n - 1)) := by unfold inX; rw [← hn]
  rw [hv]
  obtain ⟨x0, hx0⟩ : ∃ x, g X 0 = x := ⟨_, rfl⟩
  obtain ⟨xl, hxl⟩ : ∃ x, g X (n - 1) = x := ⟨_, rfl⟩
  rw [hx0] at f0 he ⊢
  rw [hxl] at z0 he ⊢
  have hc := fun W => clipM x x0 xl (by omega) W
  have HC := hide hc
  clear hx0 hxl ok h2 hn hc hv
  obtain ⟨y0, y1⟩ := g0.c2
  go_enter Tryz.func123, Tryz.ntmps123
  go_wp2
  go_quiet ((go_at_call 95; exact quiet_left ((unhide HC) _)))
  go_wp2
  go_ret
  exact ⟨rfl, below_drewN hb0 _⟩
theorem clip_q (n lo hi : Int) (h : lo ≤ hi) (w : World) : Calls Tryz.prog 95 #[.int .i64 n, .int .i64 lo, .int .i64 hi] w fun e w' => e = .returned (.int .i64 (clipI n lo hi)) ∧ w' = w :=
  (clipM n lo hi h w).mono fun _ _ ⟨he, hw⟩ => ⟨he, hw.symm⟩
/-- A configuration and a flux in memory. -/
structure OS (w0 w : World) (C : Cf) (a1 a2 a3 a4 : Addr) (n k c1 c2 c3 c4 : Nat) (fd fq : Int) : Prop where
  p : Blk w w0.heap.size 26 #[.int .i64 C.r, .int .i64 C.m, .slice (some a1) n c1, .slice (some a2) n c2, .slice (some a3) k c3, .slice (some a4) k c4, .int .i64 C.p, .int .i64 C.s, .int .i64 C.f]
  q : Blk w (w0.heap.size + 1) 39 #[.int .i64 fd, .int .i64 fq]
  b : Below w0.heap.size w0 w
  l : Ly w w0.heap.size C (some a1) (some a2) (some a3) (some a4) n n k k
section
variable {w0 w w' : World} {C : Cf} {a1 a2 a3 a4 : Addr} {n k c1 c2 c3 c4 : Nat} {fd fq : Int}
theorem OS.all (h : OS w0 w C a1 a2 a3 a4 n k c1 c2 c3 c4 fd fq) : OS w0 w C a1 a2 a3 a4 n k c1 c2 c3 c4 fd fq ∧ w.cell? ⟨w0.heap.size, 4, none⟩ = some (.slice (some a3) k c3) ∧ w.cell? ⟨w0.heap.size, 5, none⟩ = some (.slice (some a4) k c4) ∧ w.cell? ⟨w0.heap.size + 1, 1, none⟩ = some (.int .i64 fq) := ⟨h, h.p.cell 4, h.p.cell 5, h.q.cell 1⟩
theorem OS.drew (h : OS w0 w C a1 a2 a3 a4 n k c1 c2 c3 c4 fd fq) : OS w0 w.drew C a1 a2 a3 a4 n k c1 c2 c3 c4 fd fq := ⟨h.p.drew, h.q.drew, h.b.drew, h.l.drew⟩
theorem OS.one {Q : Prop} (h : OS w0 w C a1 a2 a3 a4 n k c1 c2 c3 c4 fd fq ∧ Q) : OS w0 w C a1 a2 a3 a4 n k c1 c2 c3 c4 fd fq := h.1
theorem OS.below (hb : Below w.heap.size w w') (h : OS w0 w C a1 a2 a3 a4 n k c1 c2 c3 c4 fd fq) : OS w0 w' C a1 a2 a3 a4 n k c1 c2 c3 c4 fd fq := ⟨h.p.below hb h.p.lt, h.q.below hb h.q.lt, h.b.trans (hb.mono h.b.size), h.l.below (hb.mono h.b.size)⟩
theorem OS.ly (h : OS w0 w C a1 a2 a3 a4 n k c1 c2 c3 c4 fd fq) : Ly w w.heap.size C (some a1) (some a2) (some a3) (some a4) n n k k := h.l.more h.b.size
end
set_option maxRecDepth 100000 in
set_option maxHeartbeats 1600000 in
theorem offM (C : Cf) (a1 a2 a3 a4 : Addr) (n k c1 c2 c3 c4 : Nat) (fd fq : Int) (w : World) (L : Ly w w.heap.size C (some a1) (some a2) (some a3) (some a4) n n k k) (ok : CfOk C) :
    Calls Tryz.prog 94 #[.agg #[.int .i64 C.r, .int .i64 C.m, .slice (some a1) n c1, .slice (some a2) n c2, .slice (some a3) k c3, .slice (some a4) k c4, .int .i64 C.p, .int .i64 C.s, .int .i64 C.f], .agg #[.int .i64 fd, .int .i64 fq]] w fun e w' => e = .returned (.tuple #[.int .i64 (devD C fd), .int .i64 (devQ C fq)]) ∧ Below w.heap.size w w' := by
  have g0 := (Blk.new w 26 #[.int .i64 C.r, .int .i64 C.m, .slice (some a1) n c1, .slice (some a2) n c2, .slice (some a3) k c3, .slice (some a4) k c4, .int .i64 C.p, .int .i64 C.s, .int .i64 C.f]).alloc (.cells #[.int .i64 fd, .int .i64 fq] 39)
  have g1 := Blk.new (w.alloc (.cells #[.int .i64 C.r, .int .i64 C.m, .slice (some a1) n c1, .slice (some a2) n c2, .slice (some a3) k c3, .slice (some a4) k c4, .int .i64 C.p, .int .i64 C.s, .int .i64 C.f] 26)) 39 #[.int .i64 fd, .int .i64 fq]
  have hb0 := ((Below.refl w.heap.size w).alloc (Nat.le_refl _) (.cells #[.int .i64 C.r, .int .i64 C.m, .slice (some a1) n c1, .slice (some a2) n c2, .slice (some a3) k c3, .slice (some a4) k c4, .int .i64 C.p, .int .i64 C.s, .int .i64 C.f] 26)).alloc (by simp) (.cells #[.int .i64 fd, .int .i64 fq] 39)
  have L0 := (L.new (.cells #[.int .i64 C.r, .int .i64 C.m, .slice (some a1) n c1, .slice (some a2) n c2, .slice (some a3) k c3, .slice (some a4) k c4, .int .i64 C.p, .int .i64 C.s, .int .i64 C.f] 26)).new (.cells #[.int .i64 fd, .int .i64 fq] 39)
  have hi1 := fun (x : Int) (W : World) (h : Ly W W.heap.size C (some a1) (some a2) (some a3) (some a4) n n k k) => intoM C.dx C.dy a1 a2 n c1 c2 x W h.s1 h.e1 ok.d
  have hi2 := fun (x : Int) (W : World) (h : Ly W W.heap.size C (some a1) (some a2) (some a3) (some a4) n n k k) => intoM C.qx C.qy a3 a4 k c3 c4 x W h.s3 h.e3 ok.q
  have hc1 := clipI_in fd (-1073741824) 1073741824 (by omega)
  have hm := ok.m
  have q1 := fun W => clip_q fd (-1073741824) 1073741824 (by omega) W
  have q2 := fun W => clip_q fq (-1073741824) 1073741824 (by omega) W
  have hv1 : devD C fd = inX C.dx (clipI fd (-1073741824) 1073741824 - C.m) := rfl
  have hv2 : devQ C fq = inX C.qx (clipI fq (-1073741824) 1073741824) := rfl
  rw [hv1, hv2]
  obtain ⟨kd, hkd⟩ : ∃ x, clipI fd (-1073741824) 1073741824 = x := ⟨_, rfl⟩
  obtain ⟨kq, hkq⟩ : ∃ x, clipI fq (-1073741824) 1073741824 = x := ⟨_, rfl⟩
  simp only [hkd] at q1 hc1 ⊢
  simp only [hkq] at q2 ⊢
  have hs : IntKind.i64.wrap (kd - C.m) = kd - C.m := IntWalk.i64_in _ (by omega)
  have H1 := hide hi1
  have H2 := hide hi2
  have Q1 := hide q1
  have Q2 := hide q2
  clear hi1 hi2 q1 q2 hkd hkq hv1 hv2 ok
  obtain ⟨y0, y1, y2, y3, y4, y5, y6, y7, y8⟩ := g0.c9
  obtain ⟨z0, z1⟩ := g1.c2
  go_enter Tryz.func94, Tryz.ntmps94
  go_wp2
  obtain ⟨W, hW⟩ : ∃ W, ((w.alloc (.cells #[.int .i64 C.r, .int .i64 C.m, .slice (some a1) n c1, .slice (some a2) n c2, .slice (some a3) k c3, .slice (some a4) k c4, .int .i64 C.p, .int .i64 C.s, .int .i64 C.f] 26)).alloc (.cells #[.int .i64 fd, .int .i64 fq] 39)) = W := ⟨_, rfl⟩
  rw [hW] at g0 hb0 L0 y0 y1 y2 y3 y4 y5 y6 y7 y8
  have g1' : Blk W (w.heap.size + 1) 39 #[.int .i64 fd, .int .i64 fq] := by rw [← hW]; exact Blk.new' (by simp)
  clear g1 z0 z1
  obtain ⟨z0, z1⟩ := g1'.c2
  simp only [hW]
  clear hW
  refine wp_region_still_tail 8 (by kernel_rfl) (by kernel_rfl) ?_
  simp only [List.take_succ_cons, List.take_zero, List.drop_succ_cons, List.drop_zero]
  repeat still_step
  still_call ((unhide Q1) _)
  repeat still_step
  refine wpStill_nil ?_
  change wpList _ _ _ _ _ W.drew
  go_wp2_with fail
  refine ((unhide H1) _ _ L0.drew).mono ?_
  rintro e w1 ⟨rfl, hb1⟩
  have HB1 := hb0.drew.trans (hb1.mono hb0.size)
  have L1 := L0.drew.to hb1
  have p0 := g0.drew.below hb1 g0.lt
  have p1 := g1'.drew.below hb1 g1'.lt
  have l1 := p1.lt
  clear y0 y1 y2 y3 y4 y5 y6 y7 y8 z0 z1
  obtain ⟨y0, y1, y2, y3, y4, y5, y6, y7, y8⟩ := p0.c9
  obtain ⟨z0, z1⟩ := p1.c2
  go_wp2
  have has : OS w w1 C a1 a2 a3 a4 n k c1 c2 c3 c4 fd fq := ⟨p0, p1, HB1, L.below HB1⟩
  go_region_held3 (fun w' => OS w w' C a1 a2 a3 a4 n k c1 c2 c3 c4 fd fq ∧ w'.cell? ⟨w.heap.size, 4, none⟩ = some (.slice (some a3) k c3) ∧ w'.cell? ⟨w.heap.size, 5, none⟩ = some (.slice (some a4) k c4) ∧ w'.cell? ⟨w.heap.size + 1, 1, none⟩ = some (.int .i64 fq))
    (first | (refine OS.all ?_; repeat (first | with_reducible exact has | with_reducible exact hasF | with_reducible refine OS.drew ?_)))
    (first | (go_at_call 95; refine ((unhide Q2) _).mono ?_; rintro e wF ⟨rfl, rfl⟩) | (go_at_call 123; refine ((unhide H2) _ _ (OS.ly (OS.one ‹OS w _ _ _ _ _ _ _ _ _ _ _ _ _ _ ∧ _›))).mono ?_; rintro e wF ⟨rfl, hbq⟩; have hasF := OS.below hbq (OS.one ‹OS w _ _ _ _ _ _ _ _ _ _ _ _ _ _ ∧ _›)))
  all_goals
    go_wp2
    go_ret2
    refine ⟨rfl, ?_⟩
    refine OS.b (C := C) (a1 := a1) (a2 := a2) (a3 := a3) (a4 := a4) (n := n) (k := k) (c1 := c1) (c2 := c2) (c3 := c3) (c4 := c4) (fd := fd) (fq := fq) ?_
    repeat (first | with_reducible exact hasF | with_reducible exact has | with_reducible refine OS.drew ?_)
end Go.Proofs.YtpfkiohknpeifaaGreat

namespace Go.Proofs.YtpfkiohknpeifaaGreat
open Go.RowKit
theorem ret_cell_tmp {P : Program} {fn : Func} {p u : Tmp} {ty : TypeId} (h : fn.results = #[.cell p ty, .tmp u]) {tmps : Array Value} {w : World} {a : Addr} {v : Value}
    (hp : tmps.getD p undef = .pointer (some a)) (hl : (loadVar ty a).run P w = .ok v w) : (results fn tmps).run P w = .ok (.tuple #[v, tmps.getD u undef]) w := by
  rw [results_cell_tmp h, hp]
  simp [asAddr, hl]
theorem ret_cell {P : Program} {fn : Func} {p : Tmp} {ty : TypeId} (h : fn.results = #[.cell p ty]) {tmps : Array Value} {w : World} {a : Addr} {v : Value}
    (hp : tmps.getD p undef = .pointer (some a)) (hl : (loadVar ty a).run P w = .ok v w) : (results fn tmps).run P w = .ok v w := by
  have hp' : tmps[p]?.getD undef = .pointer (some a) := by simpa using hp
  simp only [results, h]
  simp [asAddr, hp', hl]
theorem load_ms {w : World} {g : Nat} {t : TypeId} {a b : Value} (h : Blk w g t #[a, b]) : (loadVar 41 ⟨g, 0, none⟩).run Tryz.prog w = .ok (.agg #[a, b]) w := by
  obtain ⟨k0, k1⟩ := h.c2
  simp [go_sem, k0, k1]
theorem load_dq {w : World} {g : Nat} {t : TypeId} {a b : Value} (h : Blk w g t #[a, b]) : (loadVar 39 ⟨g, 0, none⟩).run Tryz.prog w = .ok (.agg #[a, b]) w := by
  obtain ⟨k0, k1⟩ := h.c2
  simp [go_sem, k0, k1]
/-- A configuration in memory. -/
structure CS (w0 w : World) (C : Cf) (a1 a2 a3 a4 : Addr) (n k c1 c2 c3 c4 : Nat) : Prop where
  p : Blk w w0.heap.size 26 #[.int .i64 C.r, .int .i64 C.m, .slice (some a1) n c1, .slice (some a2) n c2, .slice (some a3) k c3, .slice (some a4) k c4, .int .i64 C.p, .int .i64 C.s, .int .i64 C.f]
  b : Below w0.heap.size w0 w
  l : Ly w w0.heap.size C (some a1) (some a2) (some a3) (some a4) n n k k
section
variable {w0 w w' : World} {C : Cf} {a1 a2 a3 a4 : Addr} {n k c1 c2 c3 c4 : Nat}
theorem CS.all (h : CS w0 w C a1 a2 a3 a4 n k c1 c2 c3 c4) : CS w0 w C a1 a2 a3 a4 n k c1 c2 c3 c4 ∧ w.cell? ⟨w0.heap.size, 1, none⟩ = some (.int .i64 C.m) ∧ w.cell? ⟨w0.heap.size, 2, none⟩ = some (.slice (some a1) n c1) ∧ w.cell? ⟨w0.heap.size, 3, none⟩ = some (.slice (some a2) n c2) ∧ w.cell? ⟨w0.heap.size, 4, none⟩ = some (.slice (some a3) k c3) ∧ w.cell? ⟨w0.heap.size, 5, none⟩ = some (.slice (some a4) k c4) := ⟨h, h.p.cell 1, h.p.cell 2, h.p.cell 3, h.p.cell 4, h.p.cell 5⟩
theorem CS.drew (h : CS w0 w C a1 a2 a3 a4 n k c1 c2 c3 c4) : CS w0 w.drew C a1 a2 a3 a4 n k c1 c2 c3 c4 := ⟨h.p.drew, h.b.drew, h.l.drew⟩
theorem CS.one {Q : Prop} (h : CS w0 w C a1 a2 a3 a4 n k c1 c2 c3 c4 ∧ Q) : CS w0 w C a1 a2 a3 a4 n k c1 c2 c3 c4 := h.1
theorem CS.below (hb : Below w.heap.size w w') (h : CS w0 w C a1 a2 a3 a4 n k c1 c2 c3 c4) : CS w0 w' C a1 a2 a3 a4 n k c1 c2 c3 c4 := ⟨h.p.below hb h.p.lt, h.b.trans (hb.mono h.b.size), h.l.below (hb.mono h.b.size)⟩
theorem Ly.set {B : Nat} {A1 A2 A3 A4 : Option Addr} {n1 n2 n3 n4 : Nat} (h : Ly w B C A1 A2 A3 A4 n1 n2 n3 n4) {p : Addr} (hp : B ≤ p.block) (u : Value) : Ly (w.setCell p u) B C A1 A2 A3 A4 n1 n2 n3 n4 := h.below ((Below.refl B w).setCell hp u)
theorem CS.set (h : CS w0 w C a1 a2 a3 a4 n k c1 c2 c3 c4) {p : Addr} (hp : w0.heap.size < p.block) (u : Value) : CS w0 (w.setCell p u) C a1 a2 a3 a4 n k c1 c2 c3 c4 := ⟨h.p.far (by omega) u, h.b.setCell (by omega) u, h.l.set (by omega) u⟩
theorem CS.ly (h : CS w0 w C a1 a2 a3 a4 n k c1 c2 c3 c4) : Ly w w.heap.size C (some a1) (some a2) (some a3) (some a4) n n k k := h.l.more h.b.size
end
set_option maxRecDepth 100000 in
set_option maxHeartbeats 1600000 in
theorem stateM (C : Cf) (a1 a2 a3 a4 : Addr) (n k c1 c2 c3 c4 : Nat) (xd xq : Int) (w : World) (L : Ly w w.heap.size C (some a1) (some a2) (some a3) (some a4) n n k k) (ok : CfOk C) :
    Calls Tryz.prog 75 #[.agg #[.int .i64 C.r, .int .i64 C.m, .slice (some a1) n c1, .slice (some a2) n c2, .slice (some a3) k c3, .slice (some a4) k c4, .int .i64 C.p, .int .i64 C.s, .int .i64 C.f], .int .i64 xd, .int .i64 xq] w fun e w' => e = .returned (.agg #[.int .i64 (C.m + inX C.dx xd), .int .i64 (inX C.qx xq)]) ∧ Below w.heap.size w w' := by
  have g0 := (Blk.new w 26 #[.int .i64 C.r, .int .i64 C.m, .slice (some a1) n c1, .slice (some a2) n c2, .slice (some a3) k c3, .slice (some a4) k c4, .int .i64 C.p, .int .i64 C.s, .int .i64 C.f]).alloc (.cells #[.int .i64 0, .int .i64 0] 41)
  have hb0 := ((Below.refl w.heap.size w).alloc (Nat.le_refl _) (.cells #[.int .i64 C.r, .int .i64 C.m, .slice (some a1) n c1, .slice (some a2) n c2, .slice (some a3) k c3, .slice (some a4) k c4, .int .i64 C.p, .int .i64 C.s, .int .i64 C.f] 26)).alloc (by simp) (.cells #[.int .i64 0, .int .i64 0] 41)
  have L0 := (L.new (.cells #[.int .i64 C.r, .int .i64 C.m, .slice (some a1) n c1, .slice (some a2) n c2, .slice (some a3) k c3, .slice (some a4) k c4, .int .i64 C.p, .int .i64 C.s, .int .i64 C.f] 26)).new (.cells #[.int .i64 0, .int .i64 0] 41)
  have hi1 := fun (W : World) (h : Ly W W.heap.size C (some a1) (some a2) (some a3) (some a4) n n k k) => intoM C.dx C.dy a1 a2 n c1 c2 xd W h.s1 h.e1 ok.d
  have hi2 := fun (W : World) (h : Ly W W.heap.size C (some a1) (some a2) (some a3) (some a4) n n k k) => intoM C.qx C.qy a3 a4 k c3 c4 xq W h.s3 h.e3 ok.q
  have hd1 := inX_bd ok.d xd
  have hm := ok.m
  obtain ⟨kd, hkd⟩ : ∃ x, inX C.dx xd = x := ⟨_, rfl⟩
  obtain ⟨kq, hkq⟩ : ∃ x, inX C.qx xq = x := ⟨_, rfl⟩
  simp only [hkd] at hi1 hd1 ⊢
  simp only [hkq] at hi2 ⊢
  have hs : IntKind.i64.wrap (C.m + kd) = C.m + kd := IntWalk.i64_in _ (by omega)
  have hs2 : wrap64 (C.m + kd) = C.m + kd := by unfold wrap64; omega
  have H1 := hide hi1
  have H2 := hide hi2
  clear hi1 hi2 hkd hkq ok
  obtain ⟨y0, y1, y2, y3, y4, y5, y6, y7, y8⟩ := g0.c9
  go_enter Tryz.func75, Tryz.ntmps75
  go_wp2
  obtain ⟨W, hW⟩ : ∃ W, ((w.alloc (.cells #[.int .i64 C.r, .int .i64 C.m, .slice (some a1) n c1, .slice (some a2) n c2, .slice (some a3) k c3, .slice (some a4) k c4, .int .i64 C.p, .int .i64 C.s, .int .i64 C.f] 26)).alloc (.cells #[.int .i64 0, .int .i64 0] 41)) = W := ⟨_, rfl⟩
  rw [hW] at g0 hb0 L0 y0 y1 y2 y3 y4 y5 y6 y7 y8
  have gz : Blk W (w.heap.size + 1) 41 #[.int .i64 0, .int .i64 0] := by rw [← hW]; exact Blk.new' (by simp)
  obtain ⟨z0, z1⟩ := gz.c2
  have fz := gz.frozen 0
  have fz1 := gz.frozen 1
  have lz := gz.lt
  simp only [hW]
  clear hW
  have has : CS w W C a1 a2 a3 a4 n k c1 c2 c3 c4 := ⟨g0, hb0, L.below hb0⟩
  go_region_held3 (fun w' => CS w w' C a1 a2 a3 a4 n k c1 c2 c3 c4 ∧ w'.cell? ⟨w.heap.size, 1, none⟩ = some (.int .i64 C.m) ∧ w'.cell? ⟨w.heap.size, 2, none⟩ = some (.slice (some a1) n c1) ∧ w'.cell? ⟨w.heap.size, 3, none⟩ = some (.slice (some a2) n c2) ∧ w'.cell? ⟨w.heap.size, 4, none⟩ = some (.slice (some a3) k c3) ∧ w'.cell? ⟨w.heap.size, 5, none⟩ = some (.slice (some a4) k c4))
    (first | (refine CS.all ?_; repeat (first | with_reducible exact has | with_reducible exact hasA | with_reducible exact hasB | with_reducible refine CS.drew ?_ | (with_reducible refine CS.set ?_ ?_ _; rotate_left; · (show w.heap.size < w.heap.size + 1; omega)))))
    (first | (go_at_call 123; (with_reducible refine ((unhide H1) _ (CS.ly (CS.one ‹CS w _ _ _ _ _ _ _ _ _ _ _ _ ∧ _›))).mono ?_); rintro e wA ⟨rfl, hbA⟩; have hasA := CS.below hbA (CS.one ‹CS w _ _ _ _ _ _ _ _ _ _ _ _ ∧ _›); have gzA := gz.drew.below hbA lz; have lzA := gzA.lt) | (go_at_call 123; (with_reducible refine ((unhide H2) _ (CS.ly (CS.one ‹CS w _ _ _ _ _ _ _ _ _ _ _ _ ∧ _›))).mono ?_); rintro e wB ⟨rfl, hbB⟩; have hasB := CS.below hbB (CS.one ‹CS w _ _ _ _ _ _ _ _ _ _ _ _ ∧ _›); have gzB := gzA.below hbB lzA; have zB0 := gzB.c2.1; have zB1 := gzB.c2.2; have fB0 := gzB.frozen 0; have fB1 := gzB.frozen 1))
  all_goals
    go_wp2
    refine bodyPost_ret (ret_cell rfl rfl (load_ms ((gzB.set_ 0 _).set_ 1 _))) rfl ⟨rfl, ?_⟩
    exact (hasB.b.setCell (by simp; try omega) _).setCell (by simp; try omega) _
set_option maxRecDepth 100000 in
set_option maxHeartbeats 1600000 in
theorem startM_bad (C : Cf) (A1 A2 A3 A4 : Option Addr) (n1 n2 n3 n4 c1 c2 c3 c4 : Nat) (w : World) (L : Ly w w.heap.size C A1 A2 A3 A4 n1 n2 n3 n4) (hc : cfCode C ≠ 0) :
    Calls Tryz.prog 26 #[.agg #[.int .i64 C.r, .int .i64 C.m, .slice A1 n1 c1, .slice A2 n2 c2, .slice A3 n3 c3, .slice A4 n4 c4, .int .i64 C.p, .int .i64 C.s, .int .i64 C.f]] w fun e w' => e = .returned (.tuple #[.agg #[.int .i64 0, .int .i64 0], errV (cfCode C)]) ∧ Below w.heap.size w w' := by
  have hb0 := ((Below.refl w.heap.size w).alloc (Nat.le_refl _) (.cells #[.int .i64 C.r, .int .i64 C.m, .slice A1 n1 c1, .slice A2 n2 c2, .slice A3 n3 c3, .slice A4 n4 c4, .int .i64 C.p, .int .i64 C.s, .int .i64 C.f] 26)).alloc (by simp) (.cells #[.int .i64 0, .int .i64 0] 41)
  have gz := Blk.new' (w := w.alloc (.cells #[.int .i64 C.r, .int .i64 C.m, .slice A1 n1 c1, .slice A2 n2 c2, .slice A3 n3 c3, .slice A4 n4 c4, .int .i64 C.p, .int .i64 C.s, .int .i64 C.f] 26)) (t := 41) (cs := #[.int .i64 0, .int .i64 0]) (g := w.heap.size + 1) (by simp)
  have L0 := (L.new (.cells #[.int .i64 C.r, .int .i64 C.m, .slice A1 n1 c1, .slice A2 n2 c2, .slice A3 n3 c3, .slice A4 n4 c4, .int .i64 C.p, .int .i64 C.s, .int .i64 C.f] 26)).new (.cells #[.int .i64 0, .int .i64 0] 41)
  have hck := fun (W : World) (h : Ly W W.heap.size C A1 A2 A3 A4 n1 n2 n3 n4) => chkM C A1 A2 A3 A4 n1 n2 n3 n4 c1 c2 c3 c4 W h
  obtain ⟨cd, hcd⟩ : ∃ x, cfCode C = x := ⟨_, rfl⟩
  rw [hcd] at hc ⊢
  simp only [hcd, errV_ne hc] at hck
  rw [errV_ne hc]
  have HCK := hide hck
  clear hck hcd
  go_enter Tryz.func26, Tryz.ntmps26
  go_wp2_with fail
  refine ((unhide HCK) _ L0).mono ?_
  rintro e w1 ⟨rfl, hb1⟩
  have gz1 := gz.below hb1 gz.lt
  have lz1 := gz1.lt
  have HB1 := hb0.trans (hb1.mono hb0.size)
  obtain ⟨z0, z1⟩ := gz1.c2
  have f0 := gz1.frozen 0
  have f1 := gz1.frozen 1
  go_wp2
  refine bodyPost_ret (ret_cell_tmp rfl rfl (load_ms ((gz1.set_ 0 _).set_ 1 _))) rfl ⟨rfl, ?_⟩
  exact (HB1.setCell (by simp; try omega) _).setCell (by simp; try omega) _
set_option maxRecDepth 100000 in
set_option maxHeartbeats 1600000 in
theorem startM (C : Cf) (a1 a2 a3 a4 : Addr) (n k c1 c2 c3 c4 : Nat) (w : World) (L : Ly w w.heap.size C (some a1) (some a2) (some a3) (some a4) n n k k) (hc : cfCode C = 0) :
    Calls Tryz.prog 26 #[.agg #[.int .i64 C.r, .int .i64 C.m, .slice (some a1) n c1, .slice (some a2) n c2, .slice (some a3) k c3, .slice (some a4) k c4, .int .i64 C.p, .int .i64 C.s, .int .i64 C.f]] w fun e w' => e = .returned (.tuple #[.agg #[.int .i64 C.m, .int .i64 0], .nilIface]) ∧ Below w.heap.size w w' := by
  have ok := cf_ok hc
  have hb0 := ((Below.refl w.heap.size w).alloc (Nat.le_refl _) (.cells #[.int .i64 C.r, .int .i64 C.m, .slice (some a1) n c1, .slice (some a2) n c2, .slice (some a3) k c3, .slice (some a4) k c4, .int .i64 C.p, .int .i64 C.s, .int .i64 C.f] 26)).alloc (by simp) (.cells #[.int .i64 0, .int .i64 0] 41)
  have g0 := (Blk.new w 26 #[.int .i64 C.r, .int .i64 C.m, .slice (some a1) n c1, .slice (some a2) n c2, .slice (some a3) k c3, .slice (some a4) k c4, .int .i64 C.p, .int .i64 C.s, .int .i64 C.f]).alloc (.cells #[.int .i64 0, .int .i64 0] 41)
  have gz := Blk.new' (w := w.alloc (.cells #[.int .i64 C.r, .int .i64 C.m, .slice (some a1) n c1, .slice (some a2) n c2, .slice (some a3) k c3, .slice (some a4) k c4, .int .i64 C.p, .int .i64 C.s, .int .i64 C.f] 26)) (t := 41) (cs := #[.int .i64 0, .int .i64 0]) (g := w.heap.size + 1) (by simp)
  have L0 := (L.new (.cells #[.int .i64 C.r, .int .i64 C.m, .slice (some a1) n c1, .slice (some a2) n c2, .slice (some a3) k c3, .slice (some a4) k c4, .int .i64 C.p, .int .i64 C.s, .int .i64 C.f] 26)).new (.cells #[.int .i64 0, .int .i64 0] 41)
  have hck := fun (W : World) (h : Ly W W.heap.size C (some a1) (some a2) (some a3) (some a4) n n k k) => chkM C (some a1) (some a2) (some a3) (some a4) n n k k c1 c2 c3 c4 W h
  simp only [hc, errV_zero] at hck
  have hst := fun (W : World) (h : Ly W W.heap.size C (some a1) (some a2) (some a3) (some a4) n n k k) => stateM C a1 a2 a3 a4 n k c1 c2 c3 c4 0 0 W h ok
  have e1 := mc_ends ok.d
  have e2 := mc_ends ok.q
  simp only [inX_same (X := C.dx) (x := 0) (by omega) (by omega), inX_same (X := C.qx) (x := 0) (by omega) (by omega), Int.add_zero] at hst
  have HCK := hide hck
  have HST := hide hst
  clear hck hst hc ok e1 e2
  go_enter Tryz.func26, Tryz.ntmps26
  go_wp2_with fail
  refine ((unhide HCK) _ L0).mono ?_
  rintro e w1 ⟨rfl, hb1⟩
  have gz1 := gz.below hb1 gz.lt
  have g1 := g0.below hb1 g0.lt
  have lz1 := gz1.lt
  have l1 := g1.lt
  have HB1 := hb0.trans (hb1.mono hb0.size)
  have L1 := L0.to hb1
  obtain ⟨y0, y1, y2, y3, y4, y5, y6, y7, y8⟩ := g1.c9
  go_wp2_with fail
  refine ((unhide HST) _ L1).mono ?_
  rintro e w2 ⟨rfl, hb2⟩
  have gz2 := gz1.below hb2 gz1.lt
  have lz2 := gz2.lt
  have HB2 := HB1.trans (hb2.mono HB1.size)
  obtain ⟨z0, z1⟩ := gz2.c2
  have f0 := gz2.frozen 0
  have f1 := gz2.frozen 1
  go_wp2
  refine bodyPost_ret (ret_cell_tmp rfl rfl (load_ms ((gz2.set_ 0 _).set_ 1 _))) rfl ⟨rfl, ?_⟩
  exact (HB2.setCell (by simp; try omega) _).setCell (by simp; try omega) _
set_option maxRecDepth 100000 in
theorem startR (C : Cf) (a1 a2 a3 a4 : Addr) (n k c1 c2 c3 c4 : Nat) (w : World) :
    Calls Tryz.prog 35 #[.agg #[.int .i64 C.r, .int .i64 C.m, .slice (some a1) n c1, .slice (some a2) n c2, .slice (some a3) k c3, .slice (some a4) k c4, .int .i64 C.p, .int .i64 C.s, .int .i64 C.f]] w fun e w' => e = .returned (.agg #[.int .i64 C.m, .int .i64 0]) ∧ Below w.heap.size w w' := by
  have hb0 := ((Below.refl w.heap.size w).alloc (Nat.le_refl _) (.cells #[.int .i64 C.r, .int .i64 C.m, .slice (some a1) n c1, .slice (some a2) n c2, .slice (some a3) k c3, .slice (some a4) k c4, .int .i64 C.p, .int .i64 C.s, .int .i64 C.f] 26)).alloc (by simp) (.cells #[.int .i64 C.m, .int .i64 0] 41)
  have gz := Blk.new' (w := w.alloc (.cells #[.int .i64 C.r, .int .i64 C.m, .slice (some a1) n c1, .slice (some a2) n c2, .slice (some a3) k c3, .slice (some a4) k c4, .int .i64 C.p, .int .i64 C.s, .int .i64 C.f] 26)) (t := 41) (cs := #[.int .i64 C.m, .int .i64 0]) (g := w.heap.size + 1) (by simp)
  go_enter Tryz.func35, Tryz.ntmps35
  go_wp2
  refine bodyPost_ret (ret_cell rfl rfl (load_ms gz)) rfl ⟨rfl, hb0⟩
end Go.Proofs.YtpfkiohknpeifaaGreat

namespace Go.Proofs.YtpfkiohknpeifaaGreat
open Go.RowKit
theorem quiet_add_left {P : Program} {f : FuncId} {args : Array Value} {w : World} {a n : Nat} {v : Value}
    (h : Calls P f args (w.drewN (a + n)) fun e w' => e = .returned v ∧ w.drewN (a + n) = w') :
    Calls P f args (w.drewN (a + n)) fun e w'' => e = .returned v ∧ ∃ m, w'' = w.drewN (a + m) :=
  h.mono fun _ _ ⟨he, hm⟩ => ⟨he, n, hm.symm⟩
/-- The currents of a flux. -/
def curD (C : Cf) (d : Int) : Int := cvAt C.dx C.dy (devD C d)
def curQ (C : Cf) (q : Int) : Int := cvAt C.qx C.qy (devQ C q)
theorem cur_bd {X Y : List Int} (h : McOk X Y) (x : Int) : -1048576 ≤ cvAt X Y x ∧ cvAt X Y x ≤ 1048576 := by
  have h2 := h.ok.two
  have b0 := h.bd 0 (by omega)
  have bl := h.bd (X.length - 1) (by omega)
  have ba := at_bd h.ok x
  omega
theorem devD_idem {C : Cf} (ok : CfOk C) (d : Int) : devD C (C.m + devD C d) = devD C d := by
  have h1 : -268435456 ≤ devD C d ∧ devD C d ≤ 268435456 := inX_bd ok.d _
  have h2 := inX_in ok.d (clipI d (-1073741824) 1073741824 - C.m)
  have hm := ok.m
  show inX C.dx (clipI (C.m + devD C d) (-1073741824) 1073741824 - C.m) = _
  have h3 : clipI (C.m + devD C d) (-1073741824) 1073741824 = C.m + devD C d := by
    unfold clipI
    rw [if_neg (by omega), if_neg (by omega)]
  rw [h3, show C.m + devD C d - C.m = devD C d by omega]
  exact inX_same h2.1 h2.2
theorem devQ_idem {C : Cf} (ok : CfOk C) (q : Int) : devQ C (devQ C q) = devQ C q := by
  have h1 : -268435456 ≤ devQ C q ∧ devQ C q ≤ 268435456 := inX_bd ok.q _
  have h2 := inX_in ok.q (clipI q (-1073741824) 1073741824)
  show inX C.qx (clipI (devQ C q) (-1073741824) 1073741824) = _
  have h3 : clipI (devQ C q) (-1073741824) 1073741824 = devQ C q := by
    unfold clipI
    rw [if_neg (by omega), if_neg (by omega)]
  rw [h3]
  exact inX_same h2.1 h2.2
theorem devD_bd {C : Cf} (ok : CfOk C) (d : Int) : -268435456 ≤ devD C d ∧ devD C d ≤ 268435456 := inX_bd ok.d _
theorem devQ_bd {C : Cf} (ok : CfOk C) (q : Int) : -268435456 ≤ devQ C q ∧ devQ C q ≤ 268435456 := inX_bd ok.q _
theorem curD_bd {C : Cf} (ok : CfOk C) (d : Int) : -1048576 ≤ curD C d ∧ curD C d ≤ 1048576 := cur_bd ok.d _
theorem curQ_bd {C : Cf} (ok : CfOk C) (q : Int) : -1048576 ≤ curQ C q ∧ curQ C q ≤ 1048576 := cur_bd ok.q _
set_option maxRecDepth 100000 in
set_option maxHeartbeats 1600000 in
theorem currentsM_bad (C : Cf) (A1 A2 A3 A4 : Option Addr) (n1 n2 n3 n4 c1 c2 c3 c4 : Nat) (fd fq : Int) (w : World) (L : Ly w w.heap.size C A1 A2 A3 A4 n1 n2 n3 n4) (hc : cfCode C ≠ 0) :
    Calls Tryz.prog 85 #[.agg #[.int .i64 C.r, .int .i64 C.m, .slice A1 n1 c1, .slice A2 n2 c2, .slice A3 n3 c3, .slice A4 n4 c4, .int .i64 C.p, .int .i64 C.s, .int .i64 C.f], .agg #[.int .i64 fd, .int .i64 fq]] w fun e w' => e = .returned (.tuple #[.agg #[.int .i64 0, .int .i64 0], errV (cfCode C)]) ∧ Below w.heap.size w w' := by
  have hb0 := (((Below.refl w.heap.size w).alloc (Nat.le_refl _) (.cells #[.int .i64 C.r, .int .i64 C.m, .slice A1 n1 c1, .slice A2 n2 c2, .slice A3 n3 c3, .slice A4 n4 c4, .int .i64 C.p, .int .i64 C.s, .int .i64 C.f] 26)).alloc (by simp) (.cells #[.int .i64 fd, .int .i64 fq] 41)).alloc (by simp <;> omega) (.cells #[.int .i64 0, .int .i64 0] 39)
  have gz := Blk.new' (w := (w.alloc (.cells #[.int .i64 C.r, .int .i64 C.m, .slice A1 n1 c1, .slice A2 n2 c2, .slice A3 n3 c3, .slice A4 n4 c4, .int .i64 C.p, .int .i64 C.s, .int .i64 C.f] 26)).alloc (.cells #[.int .i64 fd, .int .i64 fq] 41)) (t := 39) (cs := #[.int .i64 0, .int .i64 0]) (g := w.heap.size + 1 + 1) (by simp)
  have L0 := ((L.new (.cells #[.int .i64 C.r, .int .i64 C.m, .slice A1 n1 c1, .slice A2 n2 c2, .slice A3 n3 c3, .slice A4 n4 c4, .int .i64 C.p, .int .i64 C.s, .int .i64 C.f] 26)).new (.cells #[.int .i64 fd, .int .i64 fq] 41)).new (.cells #[.int .i64 0, .int .i64 0] 39)
  have hck := fun (W : World) (h : Ly W W.heap.size C A1 A2 A3 A4 n1 n2 n3 n4) => chkM C A1 A2 A3 A4 n1 n2 n3 n4 c1 c2 c3 c4 W h
  obtain ⟨cd, hcd⟩ : ∃ x, cfCode C = x := ⟨_, rfl⟩
  rw [hcd] at hc ⊢
  simp only [hcd, errV_ne hc] at hck
  rw [errV_ne hc]
  have HCK := hide hck
  clear hck hcd
  go_enter Tryz.func85, Tryz.ntmps85
  go_wp2_with fail
  refine ((unhide HCK) _ L0).mono ?_
  rintro e w1 ⟨rfl, hb1⟩
  have gz1 := gz.below hb1 gz.lt
  have lz1 := gz1.lt
  have HB1 := hb0.trans (hb1.mono hb0.size)
  obtain ⟨z0, z1⟩ := gz1.c2
  have f0 := gz1.frozen 0
  have f1 := gz1.frozen 1
  go_wp2
  refine bodyPost_ret (ret_cell_tmp rfl rfl (load_dq ((gz1.set_ 0 _).set_ 1 _))) rfl ⟨rfl, ?_⟩
  exact (HB1.setCell (by simp; try omega) _).setCell (by simp; try omega) _
set_option maxRecDepth 100000 in
set_option maxHeartbeats 1600000 in
theorem currentsM (C : Cf) (a1 a2 a3 a4 : Addr) (n k c1 c2 c3 c4 : Nat) (fd fq : Int) (w : World) (L : Ly w w.heap.size C (some a1) (some a2) (some a3) (some a4) n n k k) (hc : cfCode C = 0) :
    Calls Tryz.prog 85 #[.agg #[.int .i64 C.r, .int .i64 C.m, .slice (some a1) n c1, .slice (some a2) n c2, .slice (some a3) k c3, .slice (some a4) k c4, .int .i64 C.p, .int .i64 C.s, .int .i64 C.f], .agg #[.int .i64 fd, .int .i64 fq]] w fun e w' => e = .returned (.tuple #[.agg #[.int .i64 (curD C fd), .int .i64 (curQ C fq)], .nilIface]) ∧ Below w.heap.size w w' := by
  have ok := cf_ok hc
  have hb0 := (((Below.refl w.heap.size w).alloc (Nat.le_refl _) (.cells #[.int .i64 C.r, .int .i64 C.m, .slice (some a1) n c1, .slice (some a2) n c2, .slice (some a3) k c3, .slice (some a4) k c4, .int .i64 C.p, .int .i64 C.s, .int .i64 C.f] 26)).alloc (by simp) (.cells #[.int .i64 fd, .int .i64 fq] 41)).alloc (by simp <;> omega) (.cells #[.int .i64 0, .int .i64 0] 39)
  have g0 := ((Blk.new w 26 #[.int .i64 C.r, .int .i64 C.m, .slice (some a1) n c1, .slice (some a2) n c2, .slice (some a3) k c3, .slice (some a4) k c4, .int .i64 C.p, .int .i64 C.s, .int .i64 C.f]).alloc (.cells #[.int .i64 fd, .int .i64 fq] 41)).alloc (.cells #[.int .i64 0, .int .i64 0] 39)
  have g1 := (Blk.new' (w := w.alloc (.cells #[.int .i64 C.r, .int .i64 C.m, .slice (some a1) n c1, .slice (some a2) n c2, .slice (some a3) k c3, .slice (some a4) k c4, .int .i64 C.p, .int .i64 C.s, .int .i64 C.f] 26)) (t := 41) (cs := #[.int .i64 fd, .int .i64 fq]) (g := w.heap.size + 1) (by simp)).alloc (.cells #[.int .i64 0, .int .i64 0] 39)
  have gz := Blk.new' (w := (w.alloc (.cells #[.int .i64 C.r, .int .i64 C.m, .slice (some a1) n c1, .slice (some a2) n c2, .slice (some a3) k c3, .slice (some a4) k c4, .int .i64 C.p, .int .i64 C.s, .int .i64 C.f] 26)).alloc (.cells #[.int .i64 fd, .int .i64 fq] 41)) (t := 39) (cs := #[.int .i64 0, .int .i64 0]) (g := w.heap.size + 1 + 1) (by simp)
  have L0 := ((L.new (.cells #[.int .i64 C.r, .int .i64 C.m, .slice (some a1) n c1, .slice (some a2) n c2, .slice (some a3) k c3, .slice (some a4) k c4, .int .i64 C.p, .int .i64 C.s, .int .i64 C.f] 26)).new (.cells #[.int .i64 fd, .int .i64 fq] 41)).new (.cells #[.int .i64 0, .int .i64 0] 39)
  have hck := fun (W : World) (h : Ly W W.heap.size C (some a1) (some a2) (some a3) (some a4) n n k k) => chkM C (some a1) (some a2) (some a3) (some a4) n n k k c1 c2 c3 c4 W h
  simp only [hc, errV_zero] at hck
  have hof := fun (W : World) (h : Ly W W.heap.size C (some a1) (some a2) (some a3) (some a4) n n k k) => offM C a1 a2 a3 a4 n k c1 c2 c3 c4 fd fq W h ok
  have hd := devD_bd ok fd
  have hq := devQ_bd ok fq
  have hat1 := fun (W : World) (h : Ly W W.heap.size C (some a1) (some a2) (some a3) (some a4) n n k k) => AtM C.dx C.dy a1 a2 n c1 c2 (devD C fd) (by omega) W h.s1 h.s2 h.e1 ok.d.ok ok.d.cv
  have hat2 := fun (W : World) (h : Ly W W.heap.size C (some a1) (some a2) (some a3) (some a4) n n k k) => AtM C.qx C.qy a3 a4 k c3 c4 (devQ C fq) (by omega) W h.s3 h.s4 h.e3 ok.q.ok ok.q.cv
  have HCK := hide hck
  have HOF := hide hof
  have HA1 := hide hat1
  have HA2 := hide hat2
  clear hck hof hat1 hat2 hd hq ok hc
  go_enter Tryz.func85, Tryz.ntmps85
  go_wp2_with fail
  refine ((unhide HCK) _ L0).mono ?_
  rintro e w1 ⟨rfl, hb1⟩
  have gz1 := gz.below hb1 gz.lt
  have g01 := g0.below hb1 g0.lt
  have g11 := g1.below hb1 g1.lt
  have lz1 := gz1.lt
  have l11 := g11.lt
  have l01 := g01.lt
  have HB1 := hb0.trans (hb1.mono hb0.size)
  have L1 := L0.to hb1
  obtain ⟨y0, y1, y2, y3, y4, y5, y6, y7, y8⟩ := g01.c9
  obtain ⟨z0, z1⟩ := g11.c2
  go_wp2_with fail
  refine ((unhide HOF) _ L1).mono ?_
  rintro e w2 ⟨rfl, hb2⟩
  have gz2 := gz1.below hb2 gz1.lt
  have g02 := g01.below hb2 g01.lt
  have lz2 := gz2.lt
  have l02 := g02.lt
  have HB2 := HB1.trans (hb2.mono HB1.size)
  have L2 := L1.to hb2
  clear y0 y1 y2 y3 y4 y5 y6 y7 y8 z0 z1
  obtain ⟨y0, y1, y2, y3, y4, y5, y6, y7, y8⟩ := g02.c9
  go_wp2_with fail
  refine ((unhide HA1) _ L2).mono ?_
  rintro e w3 ⟨rfl, hb3⟩
  have gz3 := gz2.below hb3 gz2.lt
  have g03 := g02.below hb3 g02.lt
  have lz3 := gz3.lt
  have l03 := g03.lt
  have HB3 := HB2.trans (hb3.mono HB2.size)
  have L3 := L2.to hb3
  clear y0 y1 y2 y3 y4 y5 y6 y7 y8
  obtain ⟨y0, y1, y2, y3, y4, y5, y6, y7, y8⟩ := g03.c9
  go_wp2_with fail
  refine ((unhide HA2) _ L3).mono ?_
  rintro e w4 ⟨rfl, hb4⟩
  have gz4 := gz3.below hb4 gz3.lt
  have lz4 := gz4.lt
  have HB4 := HB3.trans (hb4.mono HB3.size)
  obtain ⟨z0, z1⟩ := gz4.c2
  have f0 := gz4.frozen 0
  have f1 := gz4.frozen 1
  go_wp2
  refine bodyPost_ret (ret_cell_tmp rfl rfl (load_dq ((gz4.set_ 0 _).set_ 1 _))) rfl ⟨rfl, ?_⟩
  exact (HB4.setCell (by simp; try omega) _).setCell (by simp; try omega) _
set_option maxRecDepth 100000 in
set_option maxHeartbeats 1600000 in
theorem normalR (C : Cf) (a1 a2 a3 a4 : Addr) (n k c1 c2 c3 c4 : Nat) (fd fq : Int) (w : World) (L : Ly w w.heap.size C (some a1) (some a2) (some a3) (some a4) n n k k) (ok : CfOk C) :
    Calls Tryz.prog 110 #[.agg #[.int .i64 C.r, .int .i64 C.m, .slice (some a1) n c1, .slice (some a2) n c2, .slice (some a3) k c3, .slice (some a4) k c4, .int .i64 C.p, .int .i64 C.s, .int .i64 C.f], .agg #[.int .i64 fd, .int .i64 fq]] w fun e w' => e = .returned (.agg #[.int .i64 (C.m + devD C fd), .int .i64 (devQ C fq)]) ∧ Below w.heap.size w w' := by
  have hb0 := (((Below.refl w.heap.size w).alloc (Nat.le_refl _) (.cells #[.int .i64 C.r, .int .i64 C.m, .slice (some a1) n c1, .slice (some a2) n c2, .slice (some a3) k c3, .slice (some a4) k c4, .int .i64 C.p, .int .i64 C.s, .int .i64 C.f] 26)).alloc (by simp) (.cells #[.int .i64 fd, .int .i64 fq] 41)).alloc (by simp <;> omega) (.cells #[.int .i64 0, .int .i64 0] 41)
  have g0 := ((Blk.new w 26 #[.int .i64 C.r, .int .i64 C.m, .slice (some a1) n c1, .slice (some a2) n c2, .slice (some a3) k c3, .slice (some a4) k c4, .int .i64 C.p, .int .i64 C.s, .int .i64 C.f]).alloc (.cells #[.int .i64 fd, .int .i64 fq] 41)).alloc (.cells #[.int .i64 0, .int .i64 0] 41)
  have g1 := (Blk.new' (w := w.alloc (.cells #[.int .i64 C.r, .int .i64 C.m, .slice (some a1) n c1, .slice (some a2) n c2, .slice (some a3) k c3, .slice (some a4) k c4, .int .i64 C.p, .int .i64 C.s, .int .i64 C.f] 26)) (t := 41) (cs := #[.int .i64 fd, .int .i64 fq]) (g := w.heap.size + 1) (by simp)).alloc (.cells #[.int .i64 0, .int .i64 0] 41)
  have gz := Blk.new' (w := (w.alloc (.cells #[.int .i64 C.r, .int .i64 C.m, .slice (some a1) n c1, .slice (some a2) n c2, .slice (some a3) k c3, .slice (some a4) k c4, .int .i64 C.p, .int .i64 C.s, .int .i64 C.f] 26)).alloc (.cells #[.int .i64 fd, .int .i64 fq] 41)) (t := 41) (cs := #[.int .i64 0, .int .i64 0]) (g := w.heap.size + 1 + 1) (by simp)
  have L0 := ((L.new (.cells #[.int .i64 C.r, .int .i64 C.m, .slice (some a1) n c1, .slice (some a2) n c2, .slice (some a3) k c3, .slice (some a4) k c4, .int .i64 C.p, .int .i64 C.s, .int .i64 C.f] 26)).new (.cells #[.int .i64 fd, .int .i64 fq] 41)).new (.cells #[.int .i64 0, .int .i64 0] 41)
  have hd1 := devD_bd ok fd
  have hc1 := clipI_in fd (-1073741824) 1073741824 (by omega)
  have hm := ok.m
  have t1 := ok.d.ok.two
  have t2 := ok.q.ok.two
  have u1 := ok.d.ok.most
  have u2 := ok.q.ok.most
  have o1 := mc_ends ok.d
  have o2 := mc_ends ok.q
  have eN := L.e1
  have eK := L.e3
  have v1 : devD C fd = clipI (clipI fd (-1073741824) 1073741824 - C.m) (g C.dx 0) (g C.dx (n - 1)) := by rw [eN]; rfl
  have v2 : devQ C fq = clipI (clipI fq (-1073741824) 1073741824) (g C.qx 0) (g C.qx (k - 1)) := by rw [eK]; rfl
  rw [← eN] at o1
  rw [← eK] at o2
  obtain ⟨pf, pfa, pfb, x0⟩ := L0.s1.at1' (k := 0) (by omega)
  obtain ⟨pl, pla, plb, xl⟩ := L0.s1.at1' (k := n - 1) (by omega)
  obtain ⟨rf, rfa, rfb, w0⟩ := L0.s3.at1' (k := 0) (by omega)
  obtain ⟨rl, rla, rlb, wl⟩ := L0.s3.at1' (k := k - 1) (by omega)
  have n2 : 2 ≤ n := by omega
  have k2 : 2 ≤ k := by omega
  have n32 : n ≤ 32 := by omega
  have k32 : k ≤ 32 := by omega
  rw [v1] at hd1 ⊢
  rw [v2]
  obtain ⟨gx0, hx0⟩ : ∃ x, g C.dx 0 = x := ⟨_, rfl⟩
  obtain ⟨gxl, hxl⟩ : ∃ x, g C.dx (n - 1) = x := ⟨_, rfl⟩
  obtain ⟨gw0, hw0⟩ : ∃ x, g C.qx 0 = x := ⟨_, rfl⟩
  obtain ⟨gwl, hwl⟩ : ∃ x, g C.qx (k - 1) = x := ⟨_, rfl⟩
  rw [hx0] at x0 o1 hd1 ⊢
  rw [hxl] at xl o1 hd1 ⊢
  rw [hw0] at w0 o2 ⊢
  rw [hwl] at wl o2 ⊢
  have q1 := fun W => clipR fd (-1073741824) 1073741824 (by omega) W
  have q2 := fun W => clipR fq (-1073741824) 1073741824 (by omega) W
  obtain ⟨kd, hkd⟩ : ∃ x, clipI fd (-1073741824) 1073741824 = x := ⟨_, rfl⟩
  obtain ⟨kq, hkq⟩ : ∃ x, clipI fq (-1073741824) 1073741824 = x := ⟨_, rfl⟩
  simp only [hkd] at q1 hc1 hd1 ⊢
  simp only [hkq] at q2 ⊢
  have q3 := fun W => clipR (kd - C.m) gx0 gxl (by omega) W
  have q4 := fun W => clipR kq gw0 gwl (by omega) W
  obtain ⟨D, hD⟩ : ∃ x, clipI (kd - C.m) gx0 gxl = x := ⟨_, rfl⟩
  obtain ⟨Q, hQ⟩ : ∃ x, clipI kq gw0 gwl = x := ⟨_, rfl⟩
  simp only [hD] at q3 hd1 ⊢
  simp only [hQ] at q4 ⊢
  have il : ((n : Int) - 1).toNat = n - 1 := by omega
  have hi1 : (0 : Int) < (n : Int) := by omega
  have hi2 : (0 : Int) ≤ (n : Int) - 1 := by omega
  have hi3 : (n : Int) - 1 < (n : Int) := by omega
  have hi4 : IntKind.i64.wrap ((n : Int) - 1) = (n : Int) - 1 := IntWalk.i64_in _ (by omega)
  have jl : ((k : Int) - 1).toNat = k - 1 := by omega
  have hj1 : (0 : Int) < (k : Int) := by omega
  have hj2 : (0 : Int) ≤ (k : Int) - 1 := by omega
  have hj3 : (k : Int) - 1 < (k : Int) := by omega
  have hj4 : IntKind.i64.wrap ((k : Int) - 1) = (k : Int) - 1 := IntWalk.i64_in _ (by omega)
  have hs : IntKind.i64.wrap (kd - C.m) = kd - C.m := IntWalk.i64_in _ (by omega)
  have hs2 : IntKind.i64.wrap (C.m + D) = C.m + D := IntWalk.i64_in _ (by omega)
  have hs3 : wrap64 (C.m + D) = C.m + D := by unfold wrap64; omega
  have Q1 := hide q1
  have Q2 := hide q2
  have Q3 := hide q3
  have Q4 := hide q4
  clear q1 q2 q3 q4 hkd hkq hD hQ hx0 hxl hw0 hwl v1 v2 eN eK o1 o2 t1 t2 u1 u2 ok L
  obtain ⟨y0, y1, y2, y3, y4, y5, y6, y7, y8⟩ := g0.c9
  obtain ⟨z0, z1⟩ := g1.c2
  go_enter Tryz.func110, Tryz.ntmps110
  go_wp2
  go_quiet ((go_at_call 114; exact quiet_left ((unhide Q1) _)))
  go_wp2_with (first | (go_at_call 114; refine ((unhide Q2) _).mono ?_; rintro e w' ⟨rfl, rfl⟩))
  go_quiet ((go_at_call 114; exact quiet_add_left ((unhide Q3) _)))
  go_wp2
  go_quiet ((go_at_call 114; exact quiet_add_left ((unhide Q4) _)))
  go_wp2
  refine bodyPost_ret (ret_cell rfl rfl (load_ms (((gz.drewN _).set_ 0 _).set_ 1 _))) rfl ⟨rfl, ?_⟩
  exact ((below_drewN hb0 _).setCell (by simp; try omega) _).setCell (by simp; try omega) _
/-- A configuration and a state in memory. -/
structure NS (w0 w : World) (C : Cf) (a1 a2 a3 a4 : Addr) (n k c1 c2 c3 c4 : Nat) (x y : Int) : Prop where
  p : Blk w w0.heap.size 26 #[.int .i64 C.r, .int .i64 C.m, .slice (some a1) n c1, .slice (some a2) n c2, .slice (some a3) k c3, .slice (some a4) k c4, .int .i64 C.p, .int .i64 C.s, .int .i64 C.f]
  q : Blk w (w0.heap.size + 1) 41 #[.int .i64 x, .int .i64 y]
  b : Below w0.heap.size w0 w
  l : Ly w w0.heap.size C (some a1) (some a2) (some a3) (some a4) n n k k
section
variable {w0 w w' : World} {C : Cf} {a1 a2 a3 a4 : Addr} {n k c1 c2 c3 c4 : Nat} {x y : Int}
theorem NS.all (h : NS w0 w C a1 a2 a3 a4 n k c1 c2 c3 c4 x y) : NS w0 w C a1 a2 a3 a4 n k c1 c2 c3 c4 x y ∧ w.cell? ⟨w0.heap.size, 1, none⟩ = some (.int .i64 C.m) ∧ w.cell? ⟨w0.heap.size, 2, none⟩ = some (.slice (some a1) n c1) ∧ w.cell? ⟨w0.heap.size, 3, none⟩ = some (.slice (some a2) n c2) ∧ w.cell? ⟨w0.heap.size, 4, none⟩ = some (.slice (some a3) k c3) ∧ w.cell? ⟨w0.heap.size, 5, none⟩ = some (.slice (some a4) k c4) ∧ w.cell? ⟨w0.heap.size + 1, 0, none⟩ = some (.int .i64 x) ∧ w.cell? ⟨w0.heap.size + 1, 1, none⟩ = some (.int .i64 y) := ⟨h, h.p.cell 1, h.p.cell 2, h.p.cell 3, h.p.cell 4, h.p.cell 5, h.q.cell 0, h.q.cell 1⟩
theorem NS.drew (h : NS w0 w C a1 a2 a3 a4 n k c1 c2 c3 c4 x y) : NS w0 w.drew C a1 a2 a3 a4 n k c1 c2 c3 c4 x y := ⟨h.p.drew, h.q.drew, h.b.drew, h.l.drew⟩
theorem NS.one {Q : Prop} (h : NS w0 w C a1 a2 a3 a4 n k c1 c2 c3 c4 x y ∧ Q) : NS w0 w C a1 a2 a3 a4 n k c1 c2 c3 c4 x y := h.1
theorem NS.below (hb : Below w.heap.size w w') (h : NS w0 w C a1 a2 a3 a4 n k c1 c2 c3 c4 x y) : NS w0 w' C a1 a2 a3 a4 n k c1 c2 c3 c4 x y := ⟨h.p.below hb h.p.lt, h.q.below hb h.q.lt, h.b.trans (hb.mono h.b.size), h.l.below (hb.mono h.b.size)⟩
theorem NS.set (h : NS w0 w C a1 a2 a3 a4 n k c1 c2 c3 c4 x y) {p : Addr} (hp : w0.heap.size + 1 < p.block) (u : Value) : NS w0 (w.setCell p u) C a1 a2 a3 a4 n k c1 c2 c3 c4 x y := ⟨h.p.far (by omega) u, h.q.far (by omega) u, h.b.setCell (by omega) u, h.l.set (by omega) u⟩
theorem NS.ly (h : NS w0 w C a1 a2 a3 a4 n k c1 c2 c3 c4 x y) : Ly w w.heap.size C (some a1) (some a2) (some a3) (some a4) n n k k := h.l.more h.b.size
end
set_option maxRecDepth 100000 in
set_option maxHeartbeats 1600000 in
theorem currentsR (C : Cf) (a1 a2 a3 a4 : Addr) (n k c1 c2 c3 c4 : Nat) (fd fq : Int) (w : World) (L : Ly w w.heap.size C (some a1) (some a2) (some a3) (some a4) n n k k) (ok : CfOk C) :
    Calls Tryz.prog 103 #[.agg #[.int .i64 C.r, .int .i64 C.m, .slice (some a1) n c1, .slice (some a2) n c2, .slice (some a3) k c3, .slice (some a4) k c4, .int .i64 C.p, .int .i64 C.s, .int .i64 C.f], .agg #[.int .i64 fd, .int .i64 fq]] w fun e w' => e = .returned (.agg #[.int .i64 (curD C fd), .int .i64 (curQ C fq)]) ∧ Below w.heap.size w w' := by
  have hb0 := (((Below.refl w.heap.size w).alloc (Nat.le_refl _) (.cells #[.int .i64 C.r, .int .i64 C.m, .slice (some a1) n c1, .slice (some a2) n c2, .slice (some a3) k c3, .slice (some a4) k c4, .int .i64 C.p, .int .i64 C.s, .int .i64 C.f] 26)).alloc (by simp) (.cells #[.int .i64 fd, .int .i64 fq] 41)).alloc (by simp <;> omega) (.cells #[.int .i64 0, .int .i64 0] 39)
  have g0 := ((Blk.new w 26 #[.int .i64 C.r, .int .i64 C.m, .slice (some a1) n c1, .slice (some a2) n c2, .slice (some a3) k c3, .slice (some a4) k c4, .int .i64 C.p, .int .i64 C.s, .int .i64 C.f]).alloc (.cells #[.int .i64 fd, .int .i64 fq] 41)).alloc (.cells #[.int .i64 0, .int .i64 0] 39)
  have g1 := (Blk.new' (w := w.alloc (.cells #[.int .i64 C.r, .int .i64 C.m, .slice (some a1) n c1, .slice (some a2) n c2, .slice (some a3) k c3, .slice (some a4) k c4, .int .i64 C.p, .int .i64 C.s, .int .i64 C.f] 26)) (t := 41) (cs := #[.int .i64 fd, .int .i64 fq]) (g := w.heap.size + 1) (by simp)).alloc (.cells #[.int .i64 0, .int .i64 0] 39)
  have gz := Blk.new' (w := (w.alloc (.cells #[.int .i64 C.r, .int .i64 C.m, .slice (some a1) n c1, .slice (some a2) n c2, .slice (some a3) k c3, .slice (some a4) k c4, .int .i64 C.p, .int .i64 C.s, .int .i64 C.f] 26)).alloc (.cells #[.int .i64 fd, .int .i64 fq] 41)) (t := 39) (cs := #[.int .i64 0, .int .i64 0]) (g := w.heap.size + 1 + 1) (by simp)
  have L0 := ((L.new (.cells #[.int .i64 C.r, .int .i64 C.m, .slice (some a1) n c1, .slice (some a2) n c2, .slice (some a3) k c3, .slice (some a4) k c4, .int .i64 C.p, .int .i64 C.s, .int .i64 C.f] 26)).new (.cells #[.int .i64 fd, .int .i64 fq] 41)).new (.cells #[.int .i64 0, .int .i64 0] 39)
  have hno := fun (W : World) (h : Ly W W.heap.size C (some a1) (some a2) (some a3) (some a4) n n k k) => normalR C a1 a2 a3 a4 n k c1 c2 c3 c4 fd fq W h ok
  have hd := devD_bd ok fd
  have hq := devQ_bd ok fq
  have hm := ok.m
  have v1 : curD C fd = cvAt C.dx C.dy (devD C fd) := rfl
  have v2 : curQ C fq = cvAt C.qx C.qy (devQ C fq) := rfl
  rw [v1, v2]
  obtain ⟨D, hD⟩ : ∃ x, devD C fd = x := ⟨_, rfl⟩
  obtain ⟨Q, hQ⟩ : ∃ x, devQ C fq = x := ⟨_, rfl⟩
  simp only [hD] at hno hd ⊢
  simp only [hQ] at hno hq ⊢
  have hat1 := fun (W : World) (h : Ly W W.heap.size C (some a1) (some a2) (some a3) (some a4) n n k k) => atR C.dx C.dy a1 a2 n c1 c2 D (by omega) W h.s1 h.s2 h.e1 ok.d.ok
  have hat2 := fun (W : World) (h : Ly W W.heap.size C (some a1) (some a2) (some a3) (some a4) n n k k) => atR C.qx C.qy a3 a4 k c3 c4 Q (by omega) W h.s3 h.s4 h.e3 ok.q.ok
  have hs1 : C.m + D - C.m = D := by omega
  have hs2 : IntKind.i64.wrap (C.m + D - C.m) = D := by rw [hs1]; exact IntWalk.i64_in _ (by omega)
  have hs3 : IntKind.i64.wrap D = D := IntWalk.i64_in _ (by omega)
  have HNO := hide hno
  have HA1 := hide hat1
  have HA2 := hide hat2
  clear hno hat1 hat2 hD hQ ok v1 v2
  go_enter Tryz.func103, Tryz.ntmps103
  go_wp2_with fail
  refine ((unhide HNO) _ L0).mono ?_
  rintro e w1 ⟨rfl, hb1⟩
  have gz1 := gz.below hb1 gz.lt
  have g01 := g0.below hb1 g0.lt
  have g11 := g1.below hb1 g1.lt
  have lz1 := gz1.lt
  have l11 := g11.lt
  have l01 := g01.lt
  have HB1 := hb0.trans (hb1.mono hb0.size)
  have L1 := L0.to hb1
  obtain ⟨y0, y1, y2, y3, y4, y5, y6, y7, y8⟩ := g01.c9
  obtain ⟨z0, z1⟩ := g11.c2
  have f0 := g11.frozen 0
  have f1 := g11.frozen 1
  go_wp2
  obtain ⟨W, hW⟩ : ∃ W, ((w1.setCell ⟨w.heap.size + 1, 0, none⟩ (.int .i64 (C.m + D))).setCell ⟨w.heap.size + 1, 1, none⟩ (.int .i64 Q)) = W := ⟨_, rfl⟩
  have gW0 : Blk W w.heap.size 26 #[.int .i64 C.r, .int .i64 C.m, .slice (some a1) n c1, .slice (some a2) n c2, .slice (some a3) k c3, .slice (some a4) k c4, .int .i64 C.p, .int .i64 C.s, .int .i64 C.f] := by rw [← hW]; exact (g01.far (by simp) _).far (by simp) _
  have gW1 : Blk W (w.heap.size + 1) 41 #[.int .i64 (C.m + D), .int .i64 Q] := by rw [← hW]; exact (g11.set_ 0 _).set_ 1 _
  have gWz : Blk W (w.heap.size + 1 + 1) 39 #[.int .i64 0, .int .i64 0] := by rw [← hW]; exact (gz1.far (by simp) _).far (by simp) _
  have HW : Below w.heap.size w W := by rw [← hW]; exact (HB1.setCell (by simp) _).setCell (by simp) _
  have lW0 := gW0.lt
  have lW1 := gW1.lt
  have lWz := gWz.lt
  simp only [hW]
  clear hW gz1 g01 g11 g0 g1 gz L1 L0 HB1 hb0 hb1 y0 y1 y2 y3 y4 y5 y6 y7 y8 z0 z1 f0 f1 lz1 l11 l01
  have has : NS w W C a1 a2 a3 a4 n k c1 c2 c3 c4 (C.m + D) Q := ⟨gW0, gW1, HW, L.below HW⟩
  obtain ⟨_, b1, b2, b3, b4, b5, b6, b7⟩ := has.all
  go_region_held3 (fun w' => NS w w' C a1 a2 a3 a4 n k c1 c2 c3 c4 (C.m + D) Q ∧ w'.cell? ⟨w.heap.size, 1, none⟩ = some (.int .i64 C.m) ∧ w'.cell? ⟨w.heap.size, 2, none⟩ = some (.slice (some a1) n c1) ∧ w'.cell? ⟨w.heap.size, 3, none⟩ = some (.slice (some a2) n c2) ∧ w'.cell? ⟨w.heap.size, 4, none⟩ = some (.slice (some a3) k c3) ∧ w'.cell? ⟨w.heap.size, 5, none⟩ = some (.slice (some a4) k c4) ∧ w'.cell? ⟨w.heap.size + 1, 0, none⟩ = some (.int .i64 (C.m + D)) ∧ w'.cell? ⟨w.heap.size + 1, 1, none⟩ = some (.int .i64 Q))
    (first | (refine NS.all ?_; repeat (first | with_reducible exact has | with_reducible exact hasA | with_reducible exact hasB | with_reducible refine NS.drew ?_ | (with_reducible refine NS.set ?_ ?_ _; rotate_left; · (show w.heap.size + 1 < w.heap.size + 1 + 1; omega)))))
    (first | (go_at_call 122; (with_reducible refine ((unhide HA1) _ (NS.ly (NS.one ‹NS w _ _ _ _ _ _ _ _ _ _ _ _ _ _ ∧ _›))).mono ?_); rintro e wA ⟨rfl, hbA⟩; have hasA := NS.below hbA (NS.one ‹NS w _ _ _ _ _ _ _ _ _ _ _ _ _ _ ∧ _›); have gzA := gWz.drew.below hbA lWz; have lzA := gzA.lt) | (go_at_call 122; (with_reducible refine ((unhide HA2) _ (NS.ly (NS.one ‹NS w _ _ _ _ _ _ _ _ _ _ _ _ _ _ ∧ _›))).mono ?_); rintro e wB ⟨rfl, hbB⟩; have hasB := NS.below hbB (NS.one ‹NS w _ _ _ _ _ _ _ _ _ _ _ _ _ _ ∧ _›); have gzB := gzA.below hbB lzA; have zB0 := gzB.c2.1; have zB1 := gzB.c2.2; have fB0 := gzB.frozen 0; have fB1 := gzB.frozen 1))
  all_goals
    go_wp2
    refine bodyPost_ret (ret_cell rfl rfl (load_dq ((gzB.set_ 0 _).set_ 1 _))) rfl ⟨rfl, ?_⟩
    exact (hasB.b.setCell (by simp; try omega) _).setCell (by simp; try omega) _
end Go.Proofs.YtpfkiohknpeifaaGreat

namespace Go.Proofs.YtpfkiohknpeifaaGreat
open Go.RowKit
/-- The torque of a flux. -/
def torq (C : Cf) (d q : Int) : Int := clipI ((3 * C.p * ((C.m + devD C d) * curQ C q - devQ C q * curD C d)).tdiv (2 * C.s)) (-16777216) 16777216
set_option maxRecDepth 100000 in
set_option maxHeartbeats 1600000 in
theorem torqueM_bad (C : Cf) (A1 A2 A3 A4 : Option Addr) (n1 n2 n3 n4 c1 c2 c3 c4 : Nat) (fd fq : Int) (w : World) (L : Ly w w.heap.size C A1 A2 A3 A4 n1 n2 n3 n4) (hc : cfCode C ≠ 0) :
    Calls Tryz.prog 42 #[.agg #[.int .i64 C.r, .int .i64 C.m, .slice A1 n1 c1, .slice A2 n2 c2, .slice A3 n3 c3, .slice A4 n4 c4, .int .i64 C.p, .int .i64 C.s, .int .i64 C.f], .agg #[.int .i64 fd, .int .i64 fq]] w fun e w' => e = .returned (.tuple #[.int .i64 0, errV (cfCode C)]) ∧ Below w.heap.size w w' := by
  have hb0 := ((Below.refl w.heap.size w).alloc (Nat.le_refl _) (.cells #[.int .i64 C.r, .int .i64 C.m, .slice A1 n1 c1, .slice A2 n2 c2, .slice A3 n3 c3, .slice A4 n4 c4, .int .i64 C.p, .int .i64 C.s, .int .i64 C.f] 26)).alloc (by simp) (.cells #[.int .i64 fd, .int .i64 fq] 41)
  have L0 := (L.new (.cells #[.int .i64 C.r, .int .i64 C.m, .slice A1 n1 c1, .slice A2 n2 c2, .slice A3 n3 c3, .slice A4 n4 c4, .int .i64 C.p, .int .i64 C.s, .int .i64 C.f] 26)).new (.cells #[.int .i64 fd, .int .i64 fq] 41)
  have hcu := fun (W : World) (h : Ly W W.heap.size C A1 A2 A3 A4 n1 n2 n3 n4) => currentsM_bad C A1 A2 A3 A4 n1 n2 n3 n4 c1 c2 c3 c4 fd fq W h hc
  obtain ⟨cd, hcd⟩ : ∃ x, cfCode C = x := ⟨_, rfl⟩
  rw [hcd] at hc ⊢
  simp only [hcd, errV_ne hc] at hcu
  rw [errV_ne hc]
  have HCU := hide hcu
  clear hcu hcd
  go_enter Tryz.func42, Tryz.ntmps42
  go_wp2_with fail
  refine ((unhide HCU) _ L0).mono ?_
  rintro e w1 ⟨rfl, hb1⟩
  have HB1 := hb0.trans (hb1.mono hb0.size)
  go_wp2
  go_ret2
  exact ⟨rfl, HB1.alloc HB1.size _⟩
set_option maxRecDepth 100000 in
set_option maxHeartbeats 1600000 in
theorem torqueM (C : Cf) (a1 a2 a3 a4 : Addr) (n k c1 c2 c3 c4 : Nat) (fd fq : Int) (w : World) (L : Ly w w.heap.size C (some a1) (some a2) (some a3) (some a4) n n k k) (hc : cfCode C = 0) :
    Calls Tryz.prog 42 #[.agg #[.int .i64 C.r, .int .i64 C.m, .slice (some a1) n c1, .slice (some a2) n c2, .slice (some a3) k c3, .slice (some a4) k c4, .int .i64 C.p, .int .i64 C.s, .int .i64 C.f], .agg #[.int .i64 fd, .int .i64 fq]] w fun e w' => e = .returned (.tuple #[.int .i64 (torq C fd fq), .nilIface]) ∧ Below w.heap.size w w' := by
  have ok := cf_ok hc
  have hb0 := ((Below.refl w.heap.size w).alloc (Nat.le_refl _) (.cells #[.int .i64 C.r, .int .i64 C.m, .slice (some a1) n c1, .slice (some a2) n c2, .slice (some a3) k c3, .slice (some a4) k c4, .int .i64 C.p, .int .i64 C.s, .int .i64 C.f] 26)).alloc (by simp) (.cells #[.int .i64 fd, .int .i64 fq] 41)
  have g0 := (Blk.new w 26 #[.int .i64 C.r, .int .i64 C.m, .slice (some a1) n c1, .slice (some a2) n c2, .slice (some a3) k c3, .slice (some a4) k c4, .int .i64 C.p, .int .i64 C.s, .int .i64 C.f]).alloc (.cells #[.int .i64 fd, .int .i64 fq] 41)
  have g1 := Blk.new' (w := w.alloc (.cells #[.int .i64 C.r, .int .i64 C.m, .slice (some a1) n c1, .slice (some a2) n c2, .slice (some a3) k c3, .slice (some a4) k c4, .int .i64 C.p, .int .i64 C.s, .int .i64 C.f] 26)) (t := 41) (cs := #[.int .i64 fd, .int .i64 fq]) (g := w.heap.size + 1) (by simp)
  have L0 := (L.new (.cells #[.int .i64 C.r, .int .i64 C.m, .slice (some a1) n c1, .slice (some a2) n c2, .slice (some a3) k c3, .slice (some a4) k c4, .int .i64 C.p, .int .i64 C.s, .int .i64 C.f] 26)).new (.cells #[.int .i64 fd, .int .i64 fq] 41)
  have hcu := fun (W : World) (h : Ly W W.heap.size C (some a1) (some a2) (some a3) (some a4) n n k k) => currentsM C a1 a2 a3 a4 n k c1 c2 c3 c4 fd fq W h hc
  have hof := fun (W : World) (h : Ly W W.heap.size C (some a1) (some a2) (some a3) (some a4) n n k k) => offM C a1 a2 a3 a4 n k c1 c2 c3 c4 fd fq W h ok
  have bd := devD_bd ok fd
  have bq := devQ_bd ok fq
  have bi := curD_bd ok fd
  have bj := curQ_bd ok fq
  have bm := ok.m
  have bp := ok.p
  have bs := ok.s
  have hv : torq C fd fq = clipI ((3 * C.p * ((C.m + devD C fd) * curQ C fq - devQ C fq * curD C fd)).tdiv (2 * C.s)) (-16777216) 16777216 := rfl
  obtain ⟨D, hD⟩ : ∃ x, devD C fd = x := ⟨_, rfl⟩
  obtain ⟨Q, hQ⟩ : ∃ x, devQ C fq = x := ⟨_, rfl⟩
  obtain ⟨I, hI⟩ : ∃ x, curD C fd = x := ⟨_, rfl⟩
  obtain ⟨J, hJ⟩ : ∃ x, curQ C fq = x := ⟨_, rfl⟩
  simp only [hD, hQ] at hof
  simp only [hI, hJ] at hcu
  rw [hD, hQ, hI, hJ] at hv
  rw [hD] at bd
  rw [hQ] at bq
  rw [hI] at bi
  rw [hJ] at bj
  have m1 := mul_bd (a := C.m + D) (b := J) (A := 536870912) (B := 1048576) (by omega) (by omega)
  have m2 := mul_bd (a := Q) (b := I) (A := 268435456) (B := 1048576) (by omega) (by omega)
  have m3 := mul_bd (a := 3 * C.p) (b := (C.m + D) * J - Q * I) (A := 192) (B := 844424930131968) (by omega) (by omega)
  have e1 : IntKind.i64.wrap ((C.m + D) * J) = (C.m + D) * J := IntWalk.i64_in _ (by omega)
  have e2 : IntKind.i64.wrap (Q * I) = Q * I := IntWalk.i64_in _ (by omega)
  have e3 : IntKind.i64.wrap ((C.m + D) * J - Q * I) = (C.m + D) * J - Q * I := IntWalk.i64_in _ (by omega)
  have e4 : IntKind.i64.wrap (3 * C.p * ((C.m + D) * J - Q * I)) = 3 * C.p * ((C.m + D) * J - Q * I) := IntWalk.i64_in _ (by omega)
  have e5 : IntKind.i64.wrap (C.m + D) = C.m + D := IntWalk.i64_in _ (by omega)
  have e6 : IntKind.i64.wrap (3 * C.p) = 3 * C.p := IntWalk.i64_in _ (by omega)
  have e7 : IntKind.i64.wrap (2 * C.s) = 2 * C.s := IntWalk.i64_in _ (by omega)
  have n1 : ¬ 2 * C.s = 0 := by omega
  have n2 : ¬ 2 * C.s = -1 := by omega
  have d1 := tdiv_in (a := 3 * C.p * ((C.m + D) * J - Q * I)) (b := 2 * C.s) (A := -162129586585337856) (B := 162129586585337856) (by omega) (by omega) (by omega)
  obtain ⟨U, hU⟩ : ∃ c, (3 * C.p * ((C.m + D) * J - Q * I)).tdiv (2 * C.s) = c := ⟨_, rfl⟩
  rw [hU] at d1 hv
  obtain ⟨d1a, d1b⟩ := d1
  rw [hv]
  have hcl := fun W => clipM U (-16777216) 16777216 (by omega) W
  obtain ⟨V, hV⟩ : ∃ c, clipI U (-16777216) 16777216 = c := ⟨_, rfl⟩
  simp only [hV] at hcl ⊢
  have HCL := hide hcl
  have HCU := hide hcu
  have HOF := hide hof
  clear hcu hof hcl hD hQ hI hJ hV hv m1 m2 m3 ok hc
  go_enter Tryz.func42, Tryz.ntmps42
  go_wp2_with fail
  refine ((unhide HCU) _ L0).mono ?_
  rintro e w1 ⟨rfl, hb1⟩
  have HB1 := hb0.trans (hb1.mono hb0.size)
  have g01 := g0.below hb1 g0.lt
  have g11 := g1.below hb1 g1.lt
  have L1 := L0.to hb1
  have l11 := g11.lt
  have l01 := g01.lt
  have l11' : w.heap.size + 1 < w1.heap.size + 1 := by omega
  have l01' : w.heap.size < w1.heap.size + 1 := by omega
  obtain ⟨y0, y1, y2, y3, y4, y5, y6, y7, y8⟩ := g01.c9
  obtain ⟨z0, z1⟩ := g11.c2
  go_wp2_with fail
  refine ((unhide HOF) _ (L1.new _)).mono ?_
  rintro e w2 ⟨rfl, hb2⟩
  have gi := Blk.new' (w := w1) (t := 39) (cs := #[.int .i64 I, .int .i64 J]) (g := w1.heap.size) rfl
  have gi2 := gi.below hb2 gi.lt
  have g02 := (g01.alloc _).below hb2 (by simp; omega)
  have HB2 := (HB1.alloc HB1.size _).trans (hb2.mono (by simp; omega))
  have l2 := gi2.lt
  have l02 := g02.lt
  clear y0 y1 y2 y3 y4 y5 y6 y7 y8 z0 z1
  obtain ⟨y0, y1, y2, y3, y4, y5, y6, y7, y8⟩ := g02.c9
  obtain ⟨z0, z1⟩ := gi2.c2
  go_wp2_with (first | (go_at_call 95; refine ((unhide HCL) _).mono ?_; rintro e w' ⟨rfl, rfl⟩))
  go_ret2
  exact ⟨rfl, HB2⟩
set_option maxRecDepth 100000 in
set_option maxHeartbeats 1600000 in
theorem torqueR (C : Cf) (a1 a2 a3 a4 : Addr) (n k c1 c2 c3 c4 : Nat) (fd fq : Int) (w : World) (L : Ly w w.heap.size C (some a1) (some a2) (some a3) (some a4) n n k k) (ok : CfOk C) :
    Calls Tryz.prog 60 #[.agg #[.int .i64 C.r, .int .i64 C.m, .slice (some a1) n c1, .slice (some a2) n c2, .slice (some a3) k c3, .slice (some a4) k c4, .int .i64 C.p, .int .i64 C.s, .int .i64 C.f], .agg #[.int .i64 fd, .int .i64 fq]] w fun e w' => e = .returned (.int .i64 (torq C fd fq)) ∧ Below w.heap.size w w' := by
  have hb0 := ((Below.refl w.heap.size w).alloc (Nat.le_refl _) (.cells #[.int .i64 C.r, .int .i64 C.m, .slice (some a1) n c1, .slice (some a2) n c2, .slice (some a3) k c3, .slice (some a4) k c4, .int .i64 C.p, .int .i64 C.s, .int .i64 C.f] 26)).alloc (by simp) (.cells #[.int .i64 fd, .int .i64 fq] 41)
  have g0 := (Blk.new w 26 #[.int .i64 C.r, .int .i64 C.m, .slice (some a1) n c1, .slice (some a2) n c2, .slice (some a3) k c3, .slice (some a4) k c4, .int .i64 C.p, .int .i64 C.s, .int .i64 C.f]).alloc (.cells #[.int .i64 fd, .int .i64 fq] 41)
  have g1 := Blk.new' (w := w.alloc (.cells #[.int .i64 C.r, .int .i64 C.m, .slice (some a1) n c1, .slice (some a2) n c2, .slice (some a3) k c3, .slice (some a4) k c4, .int .i64 C.p, .int .i64 C.s, .int .i64 C.f] 26)) (t := 41) (cs := #[.int .i64 fd, .int .i64 fq]) (g := w.heap.size + 1) (by simp)
  have L0 := (L.new (.cells #[.int .i64 C.r, .int .i64 C.m, .slice (some a1) n c1, .slice (some a2) n c2, .slice (some a3) k c3, .slice (some a4) k c4, .int .i64 C.p, .int .i64 C.s, .int .i64 C.f] 26)).new (.cells #[.int .i64 fd, .int .i64 fq] 41)
  have hno := fun (W : World) (h : Ly W W.heap.size C (some a1) (some a2) (some a3) (some a4) n n k k) => normalR C a1 a2 a3 a4 n k c1 c2 c3 c4 fd fq W h ok
  have hcu := fun (W : World) (h : Ly W W.heap.size C (some a1) (some a2) (some a3) (some a4) n n k k) => currentsR C a1 a2 a3 a4 n k c1 c2 c3 c4 (C.m + devD C fd) (devQ C fq) W h ok
  have ec1 : curD C (C.m + devD C fd) = curD C fd := by unfold curD; rw [devD_idem ok]
  have ec2 : curQ C (devQ C fq) = curQ C fq := by unfold curQ; rw [devQ_idem ok]
  simp only [ec1, ec2] at hcu
  have bd := devD_bd ok fd
  have bq := devQ_bd ok fq
  have bi := curD_bd ok fd
  have bj := curQ_bd ok fq
  have bm := ok.m
  have bp := ok.p
  have bs := ok.s
  have hv : torq C fd fq = clipI ((3 * C.p * ((C.m + devD C fd) * curQ C fq - devQ C fq * curD C fd)).tdiv (2 * C.s)) (-16777216) 16777216 := rfl
  obtain ⟨D, hD⟩ : ∃ x, C.m + devD C fd = x := ⟨_, rfl⟩
  obtain ⟨Q, hQ⟩ : ∃ x, devQ C fq = x := ⟨_, rfl⟩
  obtain ⟨I, hI⟩ : ∃ x, curD C fd = x := ⟨_, rfl⟩
  obtain ⟨J, hJ⟩ : ∃ x, curQ C fq = x := ⟨_, rfl⟩
  simp only [hD, hQ] at hno
  simp only [hD, hQ, hI, hJ] at hcu
  rw [hD, hQ, hI, hJ] at hv
  have bd : -536870912 ≤ D ∧ D ≤ 536870912 := by omega
  rw [hQ] at bq
  rw [hI] at bi
  rw [hJ] at bj
  have m1 := mul_bd (a := D) (b := J) (A := 536870912) (B := 1048576) (by omega) (by omega)
  have m2 := mul_bd (a := Q) (b := I) (A := 268435456) (B := 1048576) (by omega) (by omega)
  have m3 := mul_bd (a := 3 * C.p) (b := D * J - Q * I) (A := 192) (B := 844424930131968) (by omega) (by omega)
  have e1 : IntKind.i64.wrap (D * J) = D * J := IntWalk.i64_in _ (by omega)
  have e2 : IntKind.i64.wrap (Q * I) = Q * I := IntWalk.i64_in _ (by omega)
  have e3 : IntKind.i64.wrap (D * J - Q * I) = D * J - Q * I := IntWalk.i64_in _ (by omega)
  have e4 : IntKind.i64.wrap (3 * C.p * (D * J - Q * I)) = 3 * C.p * (D * J - Q * I) := IntWalk.i64_in _ (by omega)
  have e6 : IntKind.i64.wrap (3 * C.p) = 3 * C.p := IntWalk.i64_in _ (by omega)
  have e7 : IntKind.i64.wrap (2 * C.s) = 2 * C.s := IntWalk.i64_in _ (by omega)
  have n1 : ¬ 2 * C.s = 0 := by omega
  have n2 : ¬ 2 * C.s = -1 := by omega
  have d1 := tdiv_in (a := 3 * C.p * (D * J - Q * I)) (b := 2 * C.s) (A := -162129586585337856) (B := 162129586585337856) (by omega) (by omega) (by omega)
  obtain ⟨U, hU⟩ : ∃ c, (3 * C.p * (D * J - Q * I)).tdiv (2 * C.s) = c := ⟨_, rfl⟩
  rw [hU] at d1 hv
  obtain ⟨d1a, d1b⟩ := d1
  rw [hv]
  have hcl := fun W => clipR U (-16777216) 16777216 (by omega) W
  obtain ⟨V, hV⟩ : ∃ c, clipI U (-16777216) 16777216 = c := ⟨_, rfl⟩
  simp only [hV] at hcl ⊢
  have HCL := hide hcl
  have HCU := hide hcu
  have HNO := hide hno
  clear hcu hno hcl hD hQ hI hJ hV hv m1 m2 m3 ok ec1 ec2
  go_enter Tryz.func60, Tryz.ntmps60
  go_wp2_with fail
  refine ((unhide HNO) _ L0).mono ?_
  rintro e w1 ⟨rfl, hb1⟩
  have HB1 := hb0.trans (hb1.mono hb0.size)
  have g01 := g0.below hb1 g0.lt
  have g11 := g1.below hb1 g1.lt
  have L1 := L0.to hb1
  have l11 := g11.lt
  have l01 := g01.lt
  obtain ⟨y0, y1, y2, y3, y4, y5, y6, y7, y8⟩ := g01.c9
  obtain ⟨z0, z1⟩ := g11.c2
  have f0 := g11.frozen 0
  have f1 := g11.frozen 1
  go_wp2_with fail
  obtain ⟨W, hW⟩ : ∃ W, ((w1.setCell ⟨w.heap.size + 1, 0, none⟩ (.int .i64 D)).setCell ⟨w.heap.size + 1, 1, none⟩ (.int .i64 Q)) = W := ⟨_, rfl⟩
  have gW0 : Blk W w.heap.size 26 #[.int .i64 C.r, .int .i64 C.m, .slice (some a1) n c1, .slice (some a2) n c2, .slice (some a3) k c3, .slice (some a4) k c4, .int .i64 C.p, .int .i64 C.s, .int .i64 C.f] := by rw [← hW]; exact (g01.far (by simp) _).far (by simp) _
  have gW1 : Blk W (w.heap.size + 1) 41 #[.int .i64 D, .int .i64 Q] := by rw [← hW]; exact (g11.set_ 0 _).set_ 1 _
  have HW : Below w.heap.size w W := by rw [← hW]; exact (HB1.setCell (by simp) _).setCell (by simp) _
  simp only [hW]
  clear hW y0 y1 y2 y3 y4 y5 y6 y7 y8 z0 z1 f0 f1 g01 g11 l11 l01
  refine ((unhide HCU) _ ((L.below HW).more HW.size)).mono ?_
  rintro e w2 ⟨rfl, hb2⟩
  have HB2 := HW.trans (hb2.mono HW.size)
  have g02 := gW0.below hb2 gW0.lt
  have g12 := gW1.below hb2 gW1.lt
  have l2 := g12.lt
  have l02 := g02.lt
  have l2' : w.heap.size + 1 < w2.heap.size + 1 := by omega
  have l02' : w.heap.size < w2.heap.size + 1 := by omega
  obtain ⟨y0, y1, y2, y3, y4, y5, y6, y7, y8⟩ := g02.c9
  obtain ⟨z0, z1⟩ := g12.c2
  go_wp2_with (first | (go_at_call 114; refine ((unhide HCL) _).mono ?_; rintro e w' ⟨rfl, rfl⟩))
  go_ret
  exact ⟨rfl, HB2.alloc HB2.size _⟩
end Go.Proofs.YtpfkiohknpeifaaGreat

namespace Go.Proofs.YtpfkiohknpeifaaGreat
open Go.RowKit
/-- The greatest number of which the square is at most n. -/
def sqN (n : Nat) : Nat := ff (fun k => decide (n < (k + 1) * (k + 1))) (n + 1)
theorem sqN_eq {n r : Nat} (h1 : r * r ≤ n) (h2 : n < (r + 1) * (r + 1)) : sqN n = r := by
  refine ff_hit ?_ (fun i hi => ?_) (by simpa using h2)
  · have : r ≤ r * r := Nat.le_mul_self r
    omega
  · have : (i + 1) * (i + 1) ≤ r * r := Nat.mul_le_mul hi hi
    simp only [decide_eq_false_iff_not]
    omega
theorem sqN_spec (n : Nat) : sqN n * sqN n ≤ n ∧ n < (sqN n + 1) * (sqN n + 1) := by
  have : ∃ r, r * r ≤ n ∧ n < (r + 1) * (r + 1) := by
    induction n with
    | zero => exact ⟨0, by decide, by decide⟩
    | succ n ih =>
      obtain ⟨r, h1, h2⟩ := ih
      by_cases h : n + 1 < (r + 1) * (r + 1)
      · exact ⟨r, by omega, h⟩
      · refine ⟨r + 1, by omega, ?_⟩
        have : (r + 1 + 1) * (r + 1 + 1) = (r + 1) * (r + 1) + 2 * (r + 1) + 1 := by
          rw [Nat.add_mul (r + 1) 1, Nat.mul_add (r + 1) (r + 1) 1]
          omega
        omega
  obtain ⟨r, h1, h2⟩ := this
  rw [sqN_eq h1 h2]
  exact ⟨h1, h2⟩
theorem sqN_bd {n : Nat} (h : n ≤ 4611686018427387904) : sqN n ≤ 2147483648 := by
  have h1 := (sqN_spec n).1
  refine Nat.le_of_not_lt fun h2 => ?_
  have : 2147483649 * 2147483649 ≤ sqN n * sqN n := Nat.mul_le_mul h2 h2
  omega
/-- The least number of which the square is at least n. -/
def upN (n : Nat) : Nat := if sqN n * sqN n < n then sqN n + 1 else sqN n
/-- The bits of the loop: 0, 1, 2, 4 .. -/
def bt : Nat → Nat
  | 0 => 0
  | k + 1 => 2 ^ k
theorem bt_half (k : Nat) : 2 ^ k / 2 = bt k := by
  cases k with
  | zero => rfl
  | succ k => rw [bt, Nat.pow_succ]; omega
theorem or_add (j k : Nat) (h : j * 2 ^ (k + 1) + 2 ^ k < 4294967296) : bits .or .i64 ((j * 2 ^ (k + 1) : Nat) : Int) ((2 ^ k : Nat) : Int) = ((j * 2 ^ (k + 1) + 2 ^ k : Nat) : Int) := by
  have hp : 2 ^ k < 2 ^ (k + 1) := by rw [Nat.pow_succ]; have := Nat.two_pow_pos k; omega
  have h1 := Nat.two_pow_add_eq_or_of_lt hp j
  rw [Nat.mul_comm] at h1
  show IntKind.i64.wrap ((bv ((j * 2 ^ (k + 1) : Nat) : Int) ||| bv ((2 ^ k : Nat) : Int)).toNat : Int) = _
  rw [BitVec.toNat_or]
  generalize j * 2 ^ (k + 1) = R at *
  generalize 2 ^ k = P at *
  have e1 : (bv (R : Int)).toNat = R := by unfold bv; rw [BitVec.toNat_ofInt]; omega
  have e2 : (bv (P : Int)).toNat = P := by unfold bv; rw [BitVec.toNat_ofInt]; omega
  rw [e1, e2, ← h1, IntKind.wrap_i64]
  omega
/-- What is known of the root at the bit k. -/
def SqI (N R P : Nat) : Prop := R * R ≤ N ∧ N < (R + P) * (R + P) ∧ R + P ≤ 4294967296
set_option maxRecDepth 100000 in
set_option maxHeartbeats 1600000 in
theorem sqM (N : Nat) (hN : N ≤ 4611686018427387904) (w : World) : Calls Tryz.prog 152 #[.int .i64 N] w fun e w' => e = .returned (.int .i64 (sqN N)) ∧ w = w' := by
  go_enter Tryz.func152, Tryz.ntmps152
  go_wp2
  go_loopw [3, 4] (fun u3 u4 wr => ∃ k j : Nat, k ≤ 32 ∧ u3 = .int .i64 ((j * 2 ^ k : Nat) : Int) ∧ u4 = .int .i64 ((bt k : Nat) : Int) ∧ Hid (SqI N (j * 2 ^ k) (2 ^ k)) ∧ wr = w) (fun _ u4 _ => (intOf u4).toNat)
  case atStart => exact ⟨32, 0, Nat.le_refl _, by simp, by simp [bt], ⟨by simp, by simp; omega, by simp⟩, rfl⟩
  case round =>
  obtain ⟨k, j, hk, rfl, rfl, hI, rfl⟩ := hrel
  cases k with
  | zero =>
    have hs := Lib.hid (sqN_eq (n := N) (r := j * 2 ^ 0) hI.out.1 hI.out.2.1)
    obtain ⟨R, hR⟩ : ∃ R, j * 2 ^ 0 = R := ⟨_, rfl⟩
    rw [hR] at hs ⊢
    rw [show bt 0 = 0 from rfl]
    clear hR hI
    go_wp2
    go_ret
    exact ⟨by rw [hs.out]; rfl, rfl⟩
  | succ k =>
    have hI' := hI.out
    unfold SqI at hI'
    have hor := or_add j k (by have := Nat.two_pow_pos k; have := hI'.2.2; rw [Nat.pow_succ] at this ⊢; omega)
    have hhf := bt_half k
    have hw1 : Hid ((2 * j) * 2 ^ k = j * 2 ^ (k + 1)) := by show _ = _; rw [Nat.pow_succ, Nat.mul_comm 2 j, Nat.mul_assoc, Nat.mul_comm 2 (2 ^ k)]
    have hw2 : Hid ((2 * j + 1) * 2 ^ k = j * 2 ^ (k + 1) + 2 ^ k) := by show _ = _; rw [Nat.add_mul, Nat.one_mul]; exact congrArg (· + 2 ^ k) hw1.out
    have hpp : 2 ^ (k + 1) = 2 ^ k + 2 ^ k := by rw [Nat.pow_succ]; omega
    have hp1 := Nat.two_pow_pos k
    rw [show bt (k + 1) = 2 ^ k from rfl]
    obtain ⟨R, hR⟩ : ∃ R, j * 2 ^ (k + 1) = R := ⟨_, rfl⟩
    rw [hR] at hI' hor hw1 hw2 ⊢
    rw [hpp] at hI'
    obtain ⟨S, hS⟩ : ∃ S, bt k = S := ⟨_, rfl⟩
    rw [hS] at hhf
    obtain ⟨P, hP⟩ : ∃ P, 2 ^ k = P := ⟨_, rfl⟩
    rw [hP] at hI' hor hw2 hw1 hp1 hhf ⊢
    obtain ⟨i1, i2, i3⟩ := hI'
    have HW1 := Lib.hid hw1.out
    have HW2 := Lib.hid hw2.out
    have HP := Lib.hid hP
    have HS := Lib.hid hS
    have I1 := Lib.hid i1
    have I2 := Lib.hid i2
    obtain ⟨X, hX⟩ : ∃ X, R + P = X := ⟨_, rfl⟩
    have hXb : R + P = X := hX
    have I3 := Lib.hid i2
    clear hw1 hw2 hP hS i1 i2 hR hpp hI
    rw [hX] at hor
    have HX := Lib.hid hX
    have hX1 : 1 ≤ X := by omega
    have hX2 : X ≤ 4294967296 := by omega
    clear hX hXb
    have hXP : 2 * P ≤ 4294967296 := by omega
    obtain ⟨Q, hQ⟩ : ∃ Q, N / X = Q := ⟨_, rfl⟩
    have hq : ((N : Int)).tdiv (X : Int) = (Q : Int) := by rw [Int.tdiv_eq_ediv_of_nonneg (by omega), ← hQ]; rfl
    have hQb : Q ≤ 4611686018427387904 := by rw [← hQ]; exact Nat.le_trans (Nat.div_le_self _ _) hN
    have hc : X ≤ Q ↔ X * X ≤ N := by rw [← hQ]; exact Nat.le_div_iff_mul_le hX1
    have HC := Lib.hid hc
    clear hc hQ
    have hsh : ((P : Int)) / 2 = (S : Int) := by omega
    by_cases hle : X ≤ Q
    · go_wp2
      go_roundw
      case rel => exact ⟨k, 2 * j + 1, by omega, by rw [HP.out, HW2.out, HX.out], by rw [HS.out], hide (by
        rw [HP.out, HW2.out, HX.out]
        refine ⟨HC.out.1 hle, ?_, by have := HX.out; omega⟩
        have := I2.out
        rwa [show R + (P + P) = X + P by have := HX.out; omega] at this), trivial⟩
      case measure => simp [intOf]; omega
    · go_wp2
      go_roundw
      case rel => exact ⟨k, 2 * j, by omega, by rw [HP.out, HW1.out], by rw [HS.out], hide (by
        rw [HP.out, HW1.out]
        refine ⟨I1.out, ?_, by omega⟩
        rw [HX.out]
        exact Nat.lt_of_not_le fun h => hle (HC.out.2 h)), trivial⟩
      case measure => simp [intOf]; omega
set_option maxRecDepth 100000 in
set_option maxHeartbeats 1600000 in
theorem sqR (N : Nat) (hN : N ≤ 4611686018427387904) (w : World) : Calls Tryz.prog 153 #[.int .i64 N] w fun e w' => e = .returned (.int .i64 (sqN N)) ∧ w = w' := by
  by_cases h0 : N = 0
  · subst h0
    have hz : sqN 0 = 0 := by decide
    rw [hz]
    go_enter Tryz.func153, Tryz.ntmps153
    go_wp2
    go_ret
    exact ⟨rfl, rfl⟩
  go_enter Tryz.func153, Tryz.ntmps153
  go_wp2
  go_loopw [3, 4] (fun u3 u4 wr => ∃ k j : Nat, k ≤ 32 ∧ u3 = .int .i64 ((j * 2 ^ k : Nat) : Int) ∧ u4 = .int .i64 ((bt k : Nat) : Int) ∧ Hid (SqI N (j * 2 ^ k) (2 ^ k)) ∧ wr = w) (fun _ u4 _ => (intOf u4).toNat)
  case atStart => exact ⟨32, 0, Nat.le_refl _, by simp, by simp [bt], ⟨by simp, by simp; omega, by simp⟩, rfl⟩
  case round =>
  obtain ⟨k, j, hk, rfl, rfl, hI, rfl⟩ := hrel
  cases k with
  | zero =>
    have hs := Lib.hid (sqN_eq (n := N) (r := j * 2 ^ 0) hI.out.1 hI.out.2.1)
    obtain ⟨R, hR⟩ : ∃ R, j * 2 ^ 0 = R := ⟨_, rfl⟩
    rw [hR] at hs ⊢
    rw [show bt 0 = 0 from rfl]
    clear hR hI
    go_wp2
    go_ret
    exact ⟨by rw [hs.out]; rfl, rfl⟩
  | succ k =>
    have hI' := hI.out
    unfold SqI at hI'
    have hor := or_add j k (by have := Nat.two_pow_pos k; have := hI'.2.2; rw [Nat.pow_succ] at this ⊢; omega)
    have hhf := bt_half k
    have hw1 : Hid ((2 * j) * 2 ^ k = j * 2 ^ (k + 1)) := by show _ = _; rw [Nat.pow_succ, Nat.mul_comm 2 j, Nat.mul_assoc, Nat.mul_comm 2 (2 ^ k)]
    have hw2 : Hid ((2 * j + 1) * 2 ^ k = j * 2 ^ (k + 1) + 2 ^ k) := by show _ = _; rw [Nat.add_mul, Nat.one_mul]; exact congrArg (· + 2 ^ k) hw1.out
    have hpp : 2 ^ (k + 1) = 2 ^ k + 2 ^ k := by rw [Nat.pow_succ]; omega
    have hp1 := Nat.two_pow_pos k
    rw [show bt (k + 1) = 2 ^ k from rfl]
    obtain ⟨R, hR⟩ : ∃ R, j * 2 ^ (k + 1) = R := ⟨_, rfl⟩
    rw [hR] at hI' hor hw1 hw2 ⊢
    rw [hpp] at hI'
    obtain ⟨S, hS⟩ : ∃ S, bt k = S := ⟨_, rfl⟩
    rw [hS] at hhf
    obtain ⟨P, hP⟩ : ∃ P, 2 ^ k = P := ⟨_, rfl⟩
    rw [hP] at hI' hor hw2 hw1 hp1 hhf ⊢
    obtain ⟨i1, i2, i3⟩ := hI'
    have HW1 := Lib.hid hw1.out
    have HW2 := Lib.hid hw2.out
    have HP := Lib.hid hP
    have HS := Lib.hid hS
    have I1 := Lib.hid i1
    have I2 := Lib.hid i2
    obtain ⟨X, hX⟩ : ∃ X, R + P = X := ⟨_, rfl⟩
    have hXb : R + P = X := hX
    have I3 := Lib.hid i2
    clear hw1 hw2 hP hS i1 i2 hR hpp hI
    clear hor
    have hsh : ((P : Int)).tdiv 2 = (S : Int) := by rw [Int.tdiv_eq_ediv_of_nonneg (by omega)]; omega
    have HX := Lib.hid hX
    have hX2 : (R : Int) + P ≤ 4294967296 := by omega
    by_cases hb : (R : Int) + P ≤ 3037000499
    · have hy0 : X * X ≤ 3037000499 * 3037000499 := Nat.mul_le_mul (by omega) (by omega)
      obtain ⟨Y, hY⟩ : ∃ Y, X * X = Y := ⟨_, rfl⟩
      rw [hY] at hy0
      have hyi : ((R : Int) + P) * ((R : Int) + P) = (Y : Int) := by rw [← hY, ← hX]; push_cast; rfl
      have hyw : IntKind.i64.wrap (((R : Int) + P) * ((R : Int) + P)) = (Y : Int) := by rw [hyi]; exact IntWalk.i64_in _ (by omega)
      have HY := Lib.hid hY
      clear hX hXb hY
      by_cases hm : Y ≤ N
      · go_wp2
        go_roundw
        case rel => exact ⟨k, 2 * j + 1, by omega, by rw [HP.out, HW2.out]; push_cast; rfl, by rw [HS.out], hide (by
          rw [HP.out, HW2.out, HX.out]
          refine ⟨by rw [HY.out]; exact hm, ?_, by have := HX.out; omega⟩
          have := I2.out
          rwa [show R + (P + P) = X + P by have := HX.out; omega] at this), trivial⟩
        case measure => simp [intOf]; omega
      · go_wp2
        go_roundw
        case rel => exact ⟨k, 2 * j, by omega, by rw [HP.out, HW1.out], by rw [HS.out], hide (by
          rw [HP.out, HW1.out]
          refine ⟨I1.out, ?_, by omega⟩
          rw [HX.out, HY.out]
          omega), trivial⟩
        case measure => simp [intOf]; omega
    · have hbig : N < X * X := by
        have : 3037000500 * 3037000500 ≤ X * X := Nat.mul_le_mul (by omega) (by omega)
        omega
      have HB := Lib.hid hbig
      clear hX hXb hbig
      go_wp2
      go_roundw
      case rel => exact ⟨k, 2 * j, by omega, by rw [HP.out, HW1.out], by rw [HS.out], hide (by
        rw [HP.out, HW1.out]
        refine ⟨I1.out, ?_, by omega⟩
        rw [HX.out]
        exact HB.out), trivial⟩
      case measure => simp [intOf]; omega
set_option maxRecDepth 100000 in
theorem upM (N : Nat) (hN : N ≤ 4611686018427387904) (w : World) : Calls Tryz.prog 146 #[.int .i64 N] w fun e w' => e = .returned (.int .i64 (upN N)) ∧ w = w' := by
  have hsq := fun W => sqM N hN W
  have hv : upN N = if sqN N * sqN N < N then sqN N + 1 else sqN N := rfl
  have hb := sqN_bd hN
  obtain ⟨r, hr⟩ : ∃ r, sqN N = r := ⟨_, rfl⟩
  simp only [hr] at hsq hv hb
  have hy0 : r * r ≤ 2147483648 * 2147483648 := Nat.mul_le_mul hb hb
  obtain ⟨Y, hY⟩ : ∃ Y, r * r = Y := ⟨_, rfl⟩
  rw [hY] at hv hy0
  have hyi : (r : Int) * r = (Y : Int) := by rw [← hY]; push_cast; rfl
  have hyw : IntKind.i64.wrap ((r : Int) * r) = (Y : Int) := by rw [hyi]; exact IntWalk.i64_in _ (by omega)
  have HSQ := hide hsq
  have HV := Lib.hid hv
  clear hsq hr hv hY
  go_enter Tryz.func146, Tryz.ntmps146
  by_cases h0 : N < 1
  · go_wp2_with fail
    with_reducible refine ((unhide HSQ) _).mono ?_
    rintro e w' ⟨rfl, rfl⟩
    go_wp2
    go_ret
    exact ⟨by rw [HV.out, if_neg (by omega)]; rfl, rfl⟩
  · by_cases h1 : Y < N
    · go_wp2_with fail
      with_reducible refine ((unhide HSQ) _).mono ?_
      rintro e w' ⟨rfl, rfl⟩
      go_wp2
      go_ret
      exact ⟨by rw [HV.out, if_pos h1]; rfl, rfl⟩
    · go_wp2_with fail
      with_reducible refine ((unhide HSQ) _).mono ?_
      rintro e w' ⟨rfl, rfl⟩
      go_wp2
      go_ret
      exact ⟨by rw [HV.out, if_neg h1]; rfl, rfl⟩
set_option maxRecDepth 100000 in
theorem upR (N : Nat) (hN : N ≤ 4611686018427387904) (w : World) : Calls Tryz.prog 148 #[.int .i64 N] w fun e w' => e = .returned (.int .i64 (upN N)) ∧ w = w' := by
  have hsq := fun W => sqR N hN W
  have hv : upN N = if sqN N * sqN N < N then sqN N + 1 else sqN N := rfl
  have hb := sqN_bd hN
  obtain ⟨r, hr⟩ : ∃ r, sqN N = r := ⟨_, rfl⟩
  simp only [hr] at hsq hv hb
  have hy0 : r * r ≤ 2147483648 * 2147483648 := Nat.mul_le_mul hb hb
  obtain ⟨Y, hY⟩ : ∃ Y, r * r = Y := ⟨_, rfl⟩
  rw [hY] at hv hy0
  have hyi : (r : Int) * r = (Y : Int) := by rw [← hY]; push_cast; rfl
  have hyw : IntKind.i64.wrap ((r : Int) * r) = (Y : Int) := by rw [hyi]; exact IntWalk.i64_in _ (by omega)
  have HSQ := hide hsq
  have HV := Lib.hid hv
  clear hsq hr hv hY
  go_enter Tryz.func148, Tryz.ntmps148
  by_cases h0 : N < 1
  · go_wp2_with fail
    with_reducible refine ((unhide HSQ) _).mono ?_
    rintro e w' ⟨rfl, rfl⟩
    go_wp2
    go_ret
    exact ⟨by rw [HV.out, if_neg (by omega)]; rfl, rfl⟩
  · by_cases h1 : Y < N
    · go_wp2_with fail
      with_reducible refine ((unhide HSQ) _).mono ?_
      rintro e w' ⟨rfl, rfl⟩
      go_wp2
      go_ret
      exact ⟨by rw [HV.out, if_pos h1]; rfl, rfl⟩
    · go_wp2_with fail
      with_reducible refine ((unhide HSQ) _).mono ?_
      rintro e w' ⟨rfl, rfl⟩
      go_wp2
      go_ret
      exact ⟨by rw [HV.out, if_neg h1]; rfl, rfl⟩
set_option maxRecDepth 100000 in
theorem nearM (X : List Int) (ax : Addr) (n c : Nat) (w : World) (SX : Sl w w.heap.size 1 (some ax) (rows X)) (hn : n = X.length) (hs : n ≤ 1000) (hb : ∀ i, i < n → -1073741824 ≤ g X i ∧ g X i ≤ 1073741824) :
    Calls Tryz.prog 145 #[.slice (some ax) n c] w fun e w' => e = .returned (.bool true) ∧ w = w' := by
  have HN := Lib.hid hn
  have HB := hide hb
  clear hn hb
  go_enter Tryz.func145, Tryz.ntmps145
  go_wp2
  go_loopw [7] (fun i wr => ∃ k : Nat, k ≤ n ∧ i = .int .i64 k ∧ wr = w) (fun i _ => n - (intOf i).toNat)
  case atStart => exact ⟨0, Nat.zero_le _, rfl, rfl⟩
  case round =>
  obtain ⟨k, hk, rfl, rfl⟩ := hrel
  by_cases hlt : k < n
  · obtain ⟨p, hpa, hpb, c0⟩ := SX.at1' (k := k) (by have := HN.out; omega)
    have hbk := (unhide HB) k hlt
    obtain ⟨x, hx⟩ : ∃ x, g X k = x := ⟨_, rfl⟩
    rw [hx] at hbk c0
    obtain ⟨b1, b2⟩ := hbk
    clear hx
    go_wp2
    go_roundw
    case rel => exact ⟨k + 1, by omega, by go_num, trivial⟩
    case measure => simp [intOf]; omega
  · obtain rfl : k = n := by omega
    go_wp2
    go_ret
    exact ⟨rfl, rfl⟩
set_option maxRecDepth 100000 in
theorem nearR (X : List Int) (ax : Addr) (n c : Nat) (w : World) (SX : Sl w w.heap.size 1 (some ax) (rows X)) (hn : n = X.length) (hs : n ≤ 1000) (hb : ∀ i, i < n → -1073741824 ≤ g X i ∧ g X i ≤ 1073741824) :
    Calls Tryz.prog 147 #[.slice (some ax) n c] w fun e w' => e = .returned (.bool true) ∧ w = w' := by
  have HN := Lib.hid hn
  have HB := hide hb
  clear hn hb
  go_enter Tryz.func147, Tryz.ntmps147
  go_wp2
  go_loopw [7] (fun i wr => ∃ k : Nat, k ≤ n ∧ i = .int .i64 k ∧ wr = w) (fun i _ => n - (intOf i).toNat)
  case atStart => exact ⟨0, Nat.zero_le _, rfl, rfl⟩
  case round =>
  obtain ⟨k, hk, rfl, rfl⟩ := hrel
  by_cases hlt : k < n
  · obtain ⟨p, hpa, hpb, c0⟩ := SX.at1' (k := k) (by have := HN.out; omega)
    have hbk := (unhide HB) k hlt
    obtain ⟨x, hx⟩ : ∃ x, g X k = x := ⟨_, rfl⟩
    rw [hx] at hbk c0
    obtain ⟨b1, b2⟩ := hbk
    clear hx
    go_wp2
    go_roundw
    case rel => exact ⟨k + 1, by omega, by go_num, trivial⟩
    case measure => simp [intOf]; omega
  · obtain rfl : k = n := by omega
    go_wp2
    go_ret
    exact ⟨rfl, rfl⟩
set_option maxRecDepth 100000 in
theorem cnearM (X : List Int) (ax : Addr) (n c : Nat) (w : World) (SX : Sl w w.heap.size 1 (some ax) (rows X)) (hn : n = X.length) (hs : n ≤ 1000) (hb : ∀ i, i < n → -1073741824 ≤ g X i ∧ g X i ≤ 1073741824) :
    Calls Tryz.prog 127 #[.slice (some ax) n c] w fun e w' => e = .returned .nilIface ∧ w = w' := by
  have HN := Lib.hid hn
  have HB := hide hb
  clear hn hb
  go_enter Tryz.func127, Tryz.ntmps127
  go_wp2
  go_loopw [7] (fun i wr => ∃ k : Nat, k ≤ n ∧ i = .int .i64 k ∧ wr = w) (fun i _ => n - (intOf i).toNat)
  case atStart => exact ⟨0, Nat.zero_le _, rfl, rfl⟩
  case round =>
  obtain ⟨k, hk, rfl, rfl⟩ := hrel
  by_cases hlt : k < n
  · obtain ⟨p, hpa, hpb, c0⟩ := SX.at1' (k := k) (by have := HN.out; omega)
    have hbk := (unhide HB) k hlt
    obtain ⟨x, hx⟩ : ∃ x, g X k = x := ⟨_, rfl⟩
    rw [hx] at hbk c0
    obtain ⟨b1, b2⟩ := hbk
    clear hx
    go_wp2
    go_roundw
    case rel => exact ⟨k + 1, by omega, by go_num, trivial⟩
    case measure => simp [intOf]; omega
  · obtain rfl : k = n := by omega
    go_wp2
    go_ret
    exact ⟨rfl, rfl⟩
set_option maxRecDepth 100000 in
theorem cnearR (X : List Int) (ax : Addr) (n c : Nat) (w : World) (SX : Sl w w.heap.size 1 (some ax) (rows X)) (hn : n = X.length) (hs : n ≤ 1000) (hb : ∀ i, i < n → -1073741824 ≤ g X i ∧ g X i ≤ 1073741824) :
    Calls Tryz.prog 137 #[.slice (some ax) n c] w fun e w' => e = .returned (.int .i64 0) ∧ w = w' := by
  have HN := Lib.hid hn
  have HB := hide hb
  clear hn hb
  go_enter Tryz.func137, Tryz.ntmps137
  go_wp2
  go_loopw [7] (fun i wr => ∃ k : Nat, k ≤ n ∧ i = .int .i64 k ∧ wr = w) (fun i _ => n - (intOf i).toNat)
  case atStart => exact ⟨0, Nat.zero_le _, rfl, rfl⟩
  case round =>
  obtain ⟨k, hk, rfl, rfl⟩ := hrel
  by_cases hlt : k < n
  · obtain ⟨p, hpa, hpb, c0⟩ := SX.at1' (k := k) (by have := HN.out; omega)
    have hbk := (unhide HB) k hlt
    obtain ⟨x, hx⟩ : ∃ x, g X k = x := ⟨_, rfl⟩
    rw [hx] at hbk c0
    obtain ⟨b1, b2⟩ := hbk
    clear hx
    go_wp2
    go_roundw
    case rel => exact ⟨k + 1, by omega, by go_num, trivial⟩
    case measure => simp [intOf]; omega
  · obtain rfl : k = n := by omega
    go_wp2
    go_ret
    exact ⟨rfl, rfl⟩
/-- The length of a vector, rounded up. -/
def lenI (x y : Int) : Nat := upN (x * x + y * y).toNat
theorem sq_bd {x : Int} (h : -1073741824 ≤ x ∧ x ≤ 1073741824) : 0 ≤ x * x ∧ x * x ≤ 1152921504606846976 := by
  have h1 := mul_bd (a := x) (b := x) (A := 1073741824) (B := 1073741824) (by omega) (by omega)
  have h2 : 0 ≤ x * x := by
    rcases Int.lt_or_le x 0 with h | h
    · exact Int.mul_nonneg_of_nonpos_of_nonpos (by omega) (by omega)
    · exact Int.mul_nonneg h h
  omega
theorem blk2 {w : World} {g : Nat} {t : TypeId} {a b : Int} (h : Blk w g t #[.int .i64 a, .int .i64 b]) : Sl w w.heap.size 1 (some ⟨g, 0, none⟩) (rows [a, b]) := by
  refine ⟨by simp [rows], fun _ => ⟨_, rfl, h.lt, fun k r hr j u hu => ?_⟩⟩
  have hadd : (⟨g, 0, none⟩ : Addr).add (k * 1 + j) = ⟨g, k * 1 + j, none⟩ := by
    unfold Addr.add
    split <;> simp_all
  rw [hadd, h.cell]
  have := flat_get 1 (rows [a, b]) (by simp [rows]) k r hr j u hu
  have hf : (rows [a, b]).flatten = [.int .i64 a, .int .i64 b] := rfl
  rw [hf] at this
  simpa using this
theorem near2 {x y : Int} (hx : -1073741824 ≤ x ∧ x ≤ 1073741824) (hy : -1073741824 ≤ y ∧ y ≤ 1073741824) : ∀ i, i < 2 → -1073741824 ≤ g [x, y] i ∧ g [x, y] i ≤ 1073741824 := by
  intro i hi
  match i, hi with
  | 0, _ => exact hx
  | 1, _ => exact hy
set_option maxRecDepth 100000 in
theorem aboveM (x y : Int) (hx : -1073741824 ≤ x ∧ x ≤ 1073741824) (hy : -1073741824 ≤ y ∧ y ≤ 1073741824) (w : World) : Calls Tryz.prog 135 #[.int .i64 x, .int .i64 y] w fun e w' => e = .returned (.tuple #[.int .i64 (lenI x y), .nilIface]) ∧ Below w.heap.size w w' := by
  have hb0 := (Below.refl w.heap.size w).alloc (Nat.le_refl _) (.cells #[.int .i64 x, .int .i64 y] 3)
  have g0 := Blk.new w 3 #[.int .i64 x, .int .i64 y]
  have hne := fun W (g : Nat) (h : Blk W g 3 #[.int .i64 x, .int .i64 y]) => nearM [x, y] ⟨g, 0, none⟩ 2 2 W (blk2 h) rfl (by decide) (near2 hx hy)
  have s1 := sq_bd hx
  have s2 := sq_bd hy
  obtain ⟨N, hN⟩ : ∃ N : Nat, x * x + y * y = (N : Int) := ⟨(x * x + y * y).toNat, by omega⟩
  have hl : lenI x y = upN N := by unfold lenI; rw [hN]; rfl
  have hup := fun W => upM N (by omega) W
  have e1 : IntKind.i64.wrap (x * x) = x * x := IntWalk.i64_in _ (by omega)
  have e2 : IntKind.i64.wrap (y * y) = y * y := IntWalk.i64_in _ (by omega)
  have e3 : IntKind.i64.wrap (x * x + y * y) = (N : Int) := by rw [hN]; exact IntWalk.i64_in _ (by omega)
  rw [hl]
  have HNE := hide hne
  have HUP := hide hup
  clear hne hup hl
  go_enter Tryz.func135, Tryz.ntmps135
  go_wp2_with fail
  with_reducible refine ((unhide HNE) _ _ g0).mono ?_
  rintro e w1 ⟨rfl, rfl⟩
  go_wp2_with fail
  with_reducible refine ((unhide HUP) _).mono ?_
  rintro e w1 ⟨rfl, rfl⟩
  go_wp2
  go_ret2
  exact ⟨rfl, hb0⟩
set_option maxRecDepth 100000 in
theorem aboveR (x y : Int) (hx : -1073741824 ≤ x ∧ x ≤ 1073741824) (hy : -1073741824 ≤ y ∧ y ≤ 1073741824) (w : World) : Calls Tryz.prog 138 #[.int .i64 x, .int .i64 y] w fun e w' => e = .returned (.tuple #[.int .i64 (lenI x y), .int .i64 0]) ∧ Below w.heap.size w w' := by
  have hb0 := (Below.refl w.heap.size w).alloc (Nat.le_refl _) (.cells #[.int .i64 x, .int .i64 y] 3)
  have g0 := Blk.new w 3 #[.int .i64 x, .int .i64 y]
  have hne := fun W (g : Nat) (h : Blk W g 3 #[.int .i64 x, .int .i64 y]) => nearR [x, y] ⟨g, 0, none⟩ 2 2 W (blk2 h) rfl (by decide) (near2 hx hy)
  have s1 := sq_bd hx
  have s2 := sq_bd hy
  obtain ⟨N, hN⟩ : ∃ N : Nat, x * x + y * y = (N : Int) := ⟨(x * x + y * y).toNat, by omega⟩
  have hl : lenI x y = upN N := by unfold lenI; rw [hN]; rfl
  have hup := fun W => upR N (by omega) W
  have e1 : IntKind.i64.wrap (x * x) = x * x := IntWalk.i64_in _ (by omega)
  have e2 : IntKind.i64.wrap (y * y) = y * y := IntWalk.i64_in _ (by omega)
  have e3 : IntKind.i64.wrap (x * x + y * y) = (N : Int) := by rw [hN]; exact IntWalk.i64_in _ (by omega)
  rw [hl]
  have HNE := hide hne
  have HUP := hide hup
  clear hne hup hl
  go_enter Tryz.func138, Tryz.ntmps138
  go_wp2_with fail
  with_reducible refine ((unhide HNE) _ _ g0).mono ?_
  rintro e w1 ⟨rfl, rfl⟩
  go_wp2_with fail
  with_reducible refine ((unhide HUP) _).mono ?_
  rintro e w1 ⟨rfl, rfl⟩
  go_wp2
  go_ret2
  exact ⟨rfl, hb0⟩
end Go.Proofs.YtpfkiohknpeifaaGreat
