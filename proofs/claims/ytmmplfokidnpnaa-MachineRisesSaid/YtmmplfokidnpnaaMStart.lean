/- The walks of state and Start, and of the reference's Start. -/
import Derived.Test.YtmmplfokidnpnaaMInto
import Derived.Deep.RegionWith
namespace Go.Proofs.Ytmmplfokidnpnaa
open Go.RowKit
theorem ret_cell_tmp {P : Program} {fn : Func} {p u : Tmp} {ty : TypeId} (h : fn.results = #[.cell p ty, .tmp u]) {tmps : Array Value} {w : World} {a : Addr} {v : Value}
    (hp : tmps.getD p undef = .pointer (some a)) (hl : (loadVar ty a).run P w = .ok v w) : (results fn tmps).run P w = .ok (.tuple #[v, tmps.getD u undef]) w := by
  rw [results_cell_tmp h, hp]
  simp [asAddr, hl]
theorem ret_cell {P : Program} {fn : Func} {p : Tmp} {ty : TypeId} (h : fn.results = #[.cell p ty]) {tmps : Array Value} {w : World} {a : Addr} {v : Value}
    (hp : tmps.getD p undef = .pointer (some a)) (hl : (loadVar ty a).run P w = .ok v w) : (results fn tmps).run P w = .ok v w := by
  have hp' : tmps[p]?.getD undef = .pointer (some a) := by simpa using hp
  simp only [results, h]
  simp [asAddr, hp', hl]
theorem load_ms {w : World} {g : Nat} {t : TypeId} {a b : Value} (h : Blk w g t #[a, b]) : (loadVar 33 ⟨g, 0, none⟩).run Try.prog w = .ok (.agg #[a, b]) w := by
  obtain ⟨k0, k1⟩ := h.c2
  simp [go_sem, k0, k1]
theorem load_dq {w : World} {g : Nat} {t : TypeId} {a b : Value} (h : Blk w g t #[a, b]) : (loadVar 31 ⟨g, 0, none⟩).run Try.prog w = .ok (.agg #[a, b]) w := by
  obtain ⟨k0, k1⟩ := h.c2
  simp [go_sem, k0, k1]
/-- A configuration in memory. -/
structure CS (w0 w : World) (C : Cf) (a1 a2 a3 a4 : Addr) (n k c1 c2 c3 c4 : Nat) : Prop where
  p : Blk w w0.heap.size 26 #[.int .i64 C.r, .int .i64 C.m, .slice (some a1) n c1, .slice (some a2) n c2, .slice (some a3) k c3, .slice (some a4) k c4, .int .i64 C.p, .int .i64 C.s, .int .i64 C.f]
  b : Below w0.heap.size w0 w
  l : Ly w w0.heap.size C (some a1) (some a2) (some a3) (some a4) n n k k
section
variable {w0 w w' : World} {C : Cf} {a1 a2 a3 a4 : Addr} {n k c1 c2 c3 c4 : Nat}
theorem CS.all (h : CS w0 w C a1 a2 a3 a4 n k c1 c2 c3 c4) : CS w0 w C a1 a2 a3 a4 n k c1 c2 c3 c4 ∧ w.cell? ⟨w0.heap.size, 1, none⟩ = some (.int .i64 C.m) ∧ w.cell? ⟨w0.heap.size, 2, none⟩ = some (.slice (some a1) n c1) ∧ w.cell? ⟨w0.heap.size, 3, none⟩ = some (.slice (some a2) n c2) ∧ w.cell? ⟨w0.heap.size, 4, none⟩ = some (.slice (some a3) k c3) ∧ w.cell? ⟨w0.heap.size, 5, none⟩ = some (.slice (some a4) k c4) := ⟨h, h.p.cell 1, h.p.cell 2, h.p.cell 3, h.p.cell 4, h.p.cell 5⟩
theorem CS.drew (h : CS w0 w C a1 a2 a3 a4 n k c1 c2 c3 c4) : CS w0 w.drew C a1 a2 a3 a4 n k c1 c2 c3 c4 := ⟨h.p.drew, h.b.drew, h.l.drew⟩
theorem CS.one {Q : Prop} (h : CS w0 w C a1 a2 a3 a4 n k c1 c2 c3 c4 ∧ Q) : CS w0 w C a1 a2 a3 a4 n k c1 c2 c3 c4 := h.1
theorem CS.below (hb : Below w.heap.size w w') (h : CS w0 w C a1 a2 a3 a4 n k c1 c2 c3 c4) : CS w0 w' C a1 a2 a3 a4 n k c1 c2 c3 c4 := ⟨h.p.below hb h.p.lt, h.b.trans (hb.mono h.b.size), h.l.below (hb.mono h.b.size)⟩
theorem Ly.set {B : Nat} {A1 A2 A3 A4 : Option Addr} {n1 n2 n3 n4 : Nat} (h : Ly w B C A1 A2 A3 A4 n1 n2 n3 n4) {p : Addr} (hp : B ≤ p.block) (u : Value) : Ly (w.setCell p u) B C A1 A2 A3 A4 n1 n2 n3 n4 := h.below ((Below.refl B w).setCell hp u)
theorem CS.set (h : CS w0 w C a1 a2 a3 a4 n k c1 c2 c3 c4) {p : Addr} (hp : w0.heap.size < p.block) (u : Value) : CS w0 (w.setCell p u) C a1 a2 a3 a4 n k c1 c2 c3 c4 := ⟨h.p.far (by omega) u, h.b.setCell (by omega) u, h.l.set (by omega) u⟩
theorem CS.ly (h : CS w0 w C a1 a2 a3 a4 n k c1 c2 c3 c4) : Ly w w.heap.size C (some a1) (some a2) (some a3) (some a4) n n k k := h.l.more h.b.size
end
set_option maxRecDepth 100000 in
set_option maxHeartbeats 1600000 in
theorem stateM (C : Cf) (a1 a2 a3 a4 : Addr) (n k c1 c2 c3 c4 : Nat) (xd xq : Int) (w : World) (L : Ly w w.heap.size C (some a1) (some a2) (some a3) (some a4) n n k k) (ok : CfOk C) :
    Calls Try.prog 40 #[.agg #[.int .i64 C.r, .int .i64 C.m, .slice (some a1) n c1, .slice (some a2) n c2, .slice (some a3) k c3, .slice (some a4) k c4, .int .i64 C.p, .int .i64 C.s, .int .i64 C.f], .int .i64 xd, .int .i64 xq] w fun e w' => e = .returned (.agg #[.int .i64 (C.m + inX C.dx xd), .int .i64 (inX C.qx xq)]) ∧ Below w.heap.size w w' := by
  have g0 := (Blk.new w 26 #[.int .i64 C.r, .int .i64 C.m, .slice (some a1) n c1, .slice (some a2) n c2, .slice (some a3) k c3, .slice (some a4) k c4, .int .i64 C.p, .int .i64 C.s, .int .i64 C.f]).alloc (.cells #[.int .i64 0, .int .i64 0] 33)
  have hb0 := ((Below.refl w.heap.size w).alloc (Nat.le_refl _) (.cells #[.int .i64 C.r, .int .i64 C.m, .slice (some a1) n c1, .slice (some a2) n c2, .slice (some a3) k c3, .slice (some a4) k c4, .int .i64 C.p, .int .i64 C.s, .int .i64 C.f] 26)).alloc (by simp) (.cells #[.int .i64 0, .int .i64 0] 33)
  have L0 := (L.new (.cells #[.int .i64 C.r, .int .i64 C.m, .slice (some a1) n c1, .slice (some a2) n c2, .slice (some a3) k c3, .slice (some a4) k c4, .int .i64 C.p, .int .i64 C.s, .int .i64 C.f] 26)).new (.cells #[.int .i64 0, .int .i64 0] 33)
  have hi1 := fun (W : World) (h : Ly W W.heap.size C (some a1) (some a2) (some a3) (some a4) n n k k) => intoM C.dx C.dy a1 a2 n c1 c2 xd W h.s1 h.e1 ok.d
  have hi2 := fun (W : World) (h : Ly W W.heap.size C (some a1) (some a2) (some a3) (some a4) n n k k) => intoM C.qx C.qy a3 a4 k c3 c4 xq W h.s3 h.e3 ok.q
  have hd1 := inX_bd ok.d xd
  have hm := ok.m
  obtain ⟨kd, hkd⟩ : ∃ x, inX C.dx xd = x := ⟨_, rfl⟩
  obtain ⟨kq, hkq⟩ : ∃ x, inX C.qx xq = x := ⟨_, rfl⟩
  simp only [hkd] at hi1 hd1 ⊢
  simp only [hkq] at hi2 ⊢
  have hs : IntKind.i64.wrap (C.m + kd) = C.m + kd := IntWalk.i64_in _ (by omega)
  have hs2 : wrap64 (C.m + kd) = C.m + kd := by unfold wrap64; omega
  have H1 := hide hi1
  have H2 := hide hi2
  clear hi1 hi2 hkd hkq ok
  obtain ⟨y0, y1, y2, y3, y4, y5, y6, y7, y8⟩ := g0.c9
  go_enter Try.func40, Try.ntmps40
  go_wp2
  obtain ⟨W, hW⟩ : ∃ W, ((w.alloc (.cells #[.int .i64 C.r, .int .i64 C.m, .slice (some a1) n c1, .slice (some a2) n c2, .slice (some a3) k c3, .slice (some a4) k c4, .int .i64 C.p, .int .i64 C.s, .int .i64 C.f] 26)).alloc (.cells #[.int .i64 0, .int .i64 0] 33)) = W := ⟨_, rfl⟩
  rw [hW] at g0 hb0 L0 y0 y1 y2 y3 y4 y5 y6 y7 y8
  have gz : Blk W (w.heap.size + 1) 33 #[.int .i64 0, .int .i64 0] := by rw [← hW]; exact Blk.new' (by simp)
  obtain ⟨z0, z1⟩ := gz.c2
  have fz := gz.frozen 0
  have fz1 := gz.frozen 1
  have lz := gz.lt
  simp only [hW]
  clear hW
  have has : CS w W C a1 a2 a3 a4 n k c1 c2 c3 c4 := ⟨g0, hb0, L.below hb0⟩
  go_region_held3 (fun w' => CS w w' C a1 a2 a3 a4 n k c1 c2 c3 c4 ∧ w'.cell? ⟨w.heap.size, 1, none⟩ = some (.int .i64 C.m) ∧ w'.cell? ⟨w.heap.size, 2, none⟩ = some (.slice (some a1) n c1) ∧ w'.cell? ⟨w.heap.size, 3, none⟩ = some (.slice (some a2) n c2) ∧ w'.cell? ⟨w.heap.size, 4, none⟩ = some (.slice (some a3) k c3) ∧ w'.cell? ⟨w.heap.size, 5, none⟩ = some (.slice (some a4) k c4))
    (first | (refine CS.all ?_; repeat (first | with_reducible exact has | with_reducible exact hasA | with_reducible exact hasB | with_reducible refine CS.drew ?_ | (with_reducible refine CS.set ?_ ?_ _; rotate_left; · (show w.heap.size < w.heap.size + 1; omega)))))
    (first | (go_at_call 67; (with_reducible refine ((unhide H1) _ (CS.ly (CS.one ‹CS w _ _ _ _ _ _ _ _ _ _ _ _ ∧ _›))).mono ?_); rintro e wA ⟨rfl, hbA⟩; have hasA := CS.below hbA (CS.one ‹CS w _ _ _ _ _ _ _ _ _ _ _ _ ∧ _›); have gzA := gz.drew.below hbA lz; have lzA := gzA.lt) | (go_at_call 67; (with_reducible refine ((unhide H2) _ (CS.ly (CS.one ‹CS w _ _ _ _ _ _ _ _ _ _ _ _ ∧ _›))).mono ?_); rintro e wB ⟨rfl, hbB⟩; have hasB := CS.below hbB (CS.one ‹CS w _ _ _ _ _ _ _ _ _ _ _ _ ∧ _›); have gzB := gzA.below hbB lzA; have zB0 := gzB.c2.1; have zB1 := gzB.c2.2; have fB0 := gzB.frozen 0; have fB1 := gzB.frozen 1))
  all_goals
    go_wp2
    refine bodyPost_ret (ret_cell rfl rfl (load_ms ((gzB.set_ 0 _).set_ 1 _))) rfl ⟨rfl, ?_⟩
    exact (hasB.b.setCell (by simp; try omega) _).setCell (by simp; try omega) _
set_option maxRecDepth 100000 in
set_option maxHeartbeats 1600000 in
theorem startM_bad (C : Cf) (A1 A2 A3 A4 : Option Addr) (n1 n2 n3 n4 c1 c2 c3 c4 : Nat) (w : World) (L : Ly w w.heap.size C A1 A2 A3 A4 n1 n2 n3 n4) (hc : cfCode C ≠ 0) :
    Calls Try.prog 15 #[.agg #[.int .i64 C.r, .int .i64 C.m, .slice A1 n1 c1, .slice A2 n2 c2, .slice A3 n3 c3, .slice A4 n4 c4, .int .i64 C.p, .int .i64 C.s, .int .i64 C.f]] w fun e w' => e = .returned (.tuple #[.agg #[.int .i64 0, .int .i64 0], errV (cfCode C)]) ∧ Below w.heap.size w w' := by
  have hb0 := ((Below.refl w.heap.size w).alloc (Nat.le_refl _) (.cells #[.int .i64 C.r, .int .i64 C.m, .slice A1 n1 c1, .slice A2 n2 c2, .slice A3 n3 c3, .slice A4 n4 c4, .int .i64 C.p, .int .i64 C.s, .int .i64 C.f] 26)).alloc (by simp) (.cells #[.int .i64 0, .int .i64 0] 33)
  have gz := Blk.new' (w := w.alloc (.cells #[.int .i64 C.r, .int .i64 C.m, .slice A1 n1 c1, .slice A2 n2 c2, .slice A3 n3 c3, .slice A4 n4 c4, .int .i64 C.p, .int .i64 C.s, .int .i64 C.f] 26)) (t := 33) (cs := #[.int .i64 0, .int .i64 0]) (g := w.heap.size + 1) (by simp)
  have L0 := (L.new (.cells #[.int .i64 C.r, .int .i64 C.m, .slice A1 n1 c1, .slice A2 n2 c2, .slice A3 n3 c3, .slice A4 n4 c4, .int .i64 C.p, .int .i64 C.s, .int .i64 C.f] 26)).new (.cells #[.int .i64 0, .int .i64 0] 33)
  have hck := fun (W : World) (h : Ly W W.heap.size C A1 A2 A3 A4 n1 n2 n3 n4) => chkM C A1 A2 A3 A4 n1 n2 n3 n4 c1 c2 c3 c4 W h
  obtain ⟨cd, hcd⟩ : ∃ x, cfCode C = x := ⟨_, rfl⟩
  rw [hcd] at hc ⊢
  simp only [hcd, errV_ne hc] at hck
  rw [errV_ne hc]
  have HCK := hide hck
  clear hck hcd
  go_enter Try.func15, Try.ntmps15
  go_wp2_with fail
  refine ((unhide HCK) _ L0).mono ?_
  rintro e w1 ⟨rfl, hb1⟩
  have gz1 := gz.below hb1 gz.lt
  have lz1 := gz1.lt
  have HB1 := hb0.trans (hb1.mono hb0.size)
  obtain ⟨z0, z1⟩ := gz1.c2
  have f0 := gz1.frozen 0
  have f1 := gz1.frozen 1
  go_wp2
  refine bodyPost_ret (ret_cell_tmp rfl rfl (load_ms ((gz1.set_ 0 _).set_ 1 _))) rfl ⟨rfl, ?_⟩
  exact (HB1.setCell (by simp; try omega) _).setCell (by simp; try omega) _
set_option maxRecDepth 100000 in
set_option maxHeartbeats 1600000 in
theorem startM (C : Cf) (a1 a2 a3 a4 : Addr) (n k c1 c2 c3 c4 : Nat) (w : World) (L : Ly w w.heap.size C (some a1) (some a2) (some a3) (some a4) n n k k) (hc : cfCode C = 0) :
    Calls Try.prog 15 #[.agg #[.int .i64 C.r, .int .i64 C.m, .slice (some a1) n c1, .slice (some a2) n c2, .slice (some a3) k c3, .slice (some a4) k c4, .int .i64 C.p, .int .i64 C.s, .int .i64 C.f]] w fun e w' => e = .returned (.tuple #[.agg #[.int .i64 C.m, .int .i64 0], .nilIface]) ∧ Below w.heap.size w w' := by
  have ok := cf_ok hc
  have hb0 := ((Below.refl w.heap.size w).alloc (Nat.le_refl _) (.cells #[.int .i64 C.r, .int .i64 C.m, .slice (some a1) n c1, .slice (some a2) n c2, .slice (some a3) k c3, .slice (some a4) k c4, .int .i64 C.p, .int .i64 C.s, .int .i64 C.f] 26)).alloc (by simp) (.cells #[.int .i64 0, .int .i64 0] 33)
  have g0 := (Blk.new w 26 #[.int .i64 C.r, .int .i64 C.m, .slice (some a1) n c1, .slice (some a2) n c2, .slice (some a3) k c3, .slice (some a4) k c4, .int .i64 C.p, .int .i64 C.s, .int .i64 C.f]).alloc (.cells #[.int .i64 0, .int .i64 0] 33)
  have gz := Blk.new' (w := w.alloc (.cells #[.int .i64 C.r, .int .i64 C.m, .slice (some a1) n c1, .slice (some a2) n c2, .slice (some a3) k c3, .slice (some a4) k c4, .int .i64 C.p, .int .i64 C.s, .int .i64 C.f] 26)) (t := 33) (cs := #[.int .i64 0, .int .i64 0]) (g := w.heap.size + 1) (by simp)
  have L0 := (L.new (.cells #[.int .i64 C.r, .int .i64 C.m, .slice (some a1) n c1, .slice (some a2) n c2, .slice (some a3) k c3, .slice (some a4) k c4, .int .i64 C.p, .int .i64 C.s, .int .i64 C.f] 26)).new (.cells #[.int .i64 0, .int .i64 0] 33)
  have hck := fun (W : World) (h : Ly W W.heap.size C (some a1) (some a2) (some a3) (some a4) n n k k) => chkM C (some a1) (some a2) (some a3) (some a4) n n k k c1 c2 c3 c4 W h
  simp only [hc, errV_zero] at hck
  have hst := fun (W : World) (h : Ly W W.heap.size C (some a1) (some a2) (some a3) (some a4) n n k k) => stateM C a1 a2 a3 a4 n k c1 c2 c3 c4 0 0 W h ok
  have e1 := mc_ends ok.d
  have e2 := mc_ends ok.q
  simp only [inX_same (X := C.dx) (x := 0) (by omega) (by omega), inX_same (X := C.qx) (x := 0) (by omega) (by omega), Int.add_zero] at hst
  have HCK := hide hck
  have HST := hide hst
  clear hck hst hc ok e1 e2
  go_enter Try.func15, Try.ntmps15
  go_wp2_with fail
  refine ((unhide HCK) _ L0).mono ?_
  rintro e w1 ⟨rfl, hb1⟩
  have gz1 := gz.below hb1 gz.lt
  have g1 := g0.below hb1 g0.lt
  have lz1 := gz1.lt
  have l1 := g1.lt
  have HB1 := hb0.trans (hb1.mono hb0.size)
  have L1 := L0.to hb1
  obtain ⟨y0, y1, y2, y3, y4, y5, y6, y7, y8⟩ := g1.c9
  go_wp2_with fail
  refine ((unhide HST) _ L1).mono ?_
  rintro e w2 ⟨rfl, hb2⟩
  have gz2 := gz1.below hb2 gz1.lt
  have lz2 := gz2.lt
  have HB2 := HB1.trans (hb2.mono HB1.size)
  obtain ⟨z0, z1⟩ := gz2.c2
  have f0 := gz2.frozen 0
  have f1 := gz2.frozen 1
  go_wp2
  refine bodyPost_ret (ret_cell_tmp rfl rfl (load_ms ((gz2.set_ 0 _).set_ 1 _))) rfl ⟨rfl, ?_⟩
  exact (HB2.setCell (by simp; try omega) _).setCell (by simp; try omega) _
set_option maxRecDepth 100000 in
theorem startR (C : Cf) (a1 a2 a3 a4 : Addr) (n k c1 c2 c3 c4 : Nat) (w : World) :
    Calls Try.prog 20 #[.agg #[.int .i64 C.r, .int .i64 C.m, .slice (some a1) n c1, .slice (some a2) n c2, .slice (some a3) k c3, .slice (some a4) k c4, .int .i64 C.p, .int .i64 C.s, .int .i64 C.f]] w fun e w' => e = .returned (.agg #[.int .i64 C.m, .int .i64 0]) ∧ Below w.heap.size w w' := by
  have hb0 := ((Below.refl w.heap.size w).alloc (Nat.le_refl _) (.cells #[.int .i64 C.r, .int .i64 C.m, .slice (some a1) n c1, .slice (some a2) n c2, .slice (some a3) k c3, .slice (some a4) k c4, .int .i64 C.p, .int .i64 C.s, .int .i64 C.f] 26)).alloc (by simp) (.cells #[.int .i64 C.m, .int .i64 0] 33)
  have gz := Blk.new' (w := w.alloc (.cells #[.int .i64 C.r, .int .i64 C.m, .slice (some a1) n c1, .slice (some a2) n c2, .slice (some a3) k c3, .slice (some a4) k c4, .int .i64 C.p, .int .i64 C.s, .int .i64 C.f] 26)) (t := 33) (cs := #[.int .i64 C.m, .int .i64 0]) (g := w.heap.size + 1) (by simp)
  go_enter Try.func20, Try.ntmps20
  go_wp2
  refine bodyPost_ret (ret_cell rfl rfl (load_ms gz)) rfl ⟨rfl, hb0⟩
end Go.Proofs.Ytmmplfokidnpnaa
