/- The errors of layer 24's Safe and of the reference's Safe. -/
import Derived.Test.YtgnojdiecgfeaaaRSafe
import Derived.Test.YtgnojdiecgfeaaaRunBad
import Derived.ChangeKeysEq
import Derived.Deep.RegionWith
namespace Go.Proofs.Ytgnojdiecgfeaaa
open Go.RowKit

theorem infoBoolS : (Try.prog.info? 4).map (fun i => (i.zero, i.size, i.bytes)) = some (some (.bool false), 1, 1) := by kernel_rfl
theorem cellsBoolS : Try.prog.cellsOf 4 = 1 := by kernel_rfl
set_option maxRecDepth 100000 in
theorem neq_six_g (b0 b1 b2 b3 b4 b5 c0 c1 c2 c3 c4 c5 : Bool) (w : World) : (binOp .neq 22 (.agg #[.bool b0, .bool b1, .bool b2, .bool b3, .bool b4, .bool b5]) (.agg #[.bool c0, .bool c1, .bool c2, .bool c3, .bool c4, .bool c5])).run Try.prog w = .ok (.bool !(b0 == c0 && (b1 == c1 && (b2 == c2 && (b3 == c3 && (b4 == c4 && b5 == c5)))))) w := by
  obtain ⟨i0, hi, hz0, hz1, hz2⟩ := info_parts infoBoolS
  rw [run_neq_struct, show (10000 : Nat) = 9999 + 1 from rfl, run_equalIn_array _ 9999 _ _ Try.underlying22 hi, cellsBoolS]
  have h1 := fun (x y : Bool) (w : World) => run_equalIn_bool (P := Try.prog) w 9998 4 x y Try.underlying4
  simp only [Nat.reduceAdd] at h1
  have hr : List.range 6 = [0, 1, 2, 3, 4, 5] := by decide
  rw [hr]
  cases e0 : (b0 == c0)
  · simp [Op.eqItems, go_sem, h1, e0]
  cases e1 : (b1 == c1)
  · simp [Op.eqItems, go_sem, h1, e0, e1]
  cases e2 : (b2 == c2)
  · simp [Op.eqItems, go_sem, h1, e0, e1, e2]
  cases e3 : (b3 == c3)
  · simp [Op.eqItems, go_sem, h1, e0, e1, e2, e3]
  cases e4 : (b4 == c4)
  · simp [Op.eqItems, go_sem, h1, e0, e1, e2, e3, e4]
  cases e5 : (b5 == c5)
  · simp [Op.eqItems, go_sem, h1, e0, e1, e2, e3, e4, e5]
  · simp [Op.eqItems, go_sem, h1, e0, e1, e2, e3, e4, e5]
/-- Whether the switches are those of the state. -/
def onSame (x : Nat → Lg) (b0 b1 b2 b3 b4 b5 : Bool) : Bool := b0 == ((x 0).s == 2) && (b1 == ((x 0).s == 1) && (b2 == ((x 1).s == 2) && (b3 == ((x 1).s == 1) && (b4 == ((x 2).s == 2) && b5 == ((x 2).s == 1)))))
theorem onSame_eq {x : Nat → Lg} {b0 b1 b2 b3 b4 b5 : Bool} (h : onSame x b0 b1 b2 b3 b4 b5 = true) : onL x = [b0, b1, b2, b3, b4, b5] := by
  simp only [onSame, Bool.and_eq_true, beq_iff_eq] at h
  obtain ⟨h0, h1, h2, h3, h4, h5⟩ := h
  rw [h0, h1, h2, h3, h4, h5]
  rfl

set_option maxRecDepth 100000 in
set_option maxHeartbeats 1600000 in
theorem safe_range (x : Nat → Lg) (per dead : Int) (b0 b1 b2 b3 b4 b5 : Bool) (A : Option Addr) (n c : Nat) (w : World) (hr : rngOk (x 0) (x 1) (x 2) per dead = false) :
    Calls Try.prog 52 #[.agg #[.int .i64 ((x 0).s), .int .i64 ((x 0).j), .int .i64 ((x 1).s), .int .i64 ((x 1).j), .int .i64 ((x 2).s), .int .i64 ((x 2).j)], .agg #[.int .i64 per, .bool b0, .bool b1, .bool b2, .bool b3, .bool b4, .bool b5, .slice A n c], .int .i64 dead] w fun e w' => e = .returned (.tuple #[.bool false, .agg #[.int .i64 0, .int .i64 0, .int .i64 0, .int .i64 0, .int .i64 0, .int .i64 0], .iface 95 (.int .i64 3)]) ∧ Below w.heap.size w w' := by
  have hrg := fun W => ranges_walk (x 0).s (x 0).j (x 1).s (x 1).j (x 2).s (x 2).j per dead W
  simp only [show rngOk ⟨(x 0).s, (x 0).j⟩ ⟨(x 1).s, (x 1).j⟩ ⟨(x 2).s, (x 2).j⟩ per dead = false from hr] at hrg
  have HRG := hide hrg
  clear hrg hr
  have ha0 : SS w (((w.alloc (.cells #[.int .i64 ((x 0).s), .int .i64 ((x 0).j), .int .i64 ((x 1).s), .int .i64 ((x 1).j), .int .i64 ((x 2).s), .int .i64 ((x 2).j)] 48)).alloc (.cells #[.int .i64 per, .bool b0, .bool b1, .bool b2, .bool b3, .bool b4, .bool b5, .slice A n c] 25)).alloc (.cells #[.int .i64 0, .int .i64 0, .int .i64 0, .int .i64 0, .int .i64 0, .int .i64 0] 48)) #[.int .i64 ((x 0).s), .int .i64 ((x 0).j), .int .i64 ((x 1).s), .int .i64 ((x 1).j), .int .i64 ((x 2).s), .int .i64 ((x 2).j)] #[.int .i64 per, .bool b0, .bool b1, .bool b2, .bool b3, .bool b4, .bool b5, .slice A n c] :=
    ⟨((Blk.new _ _ _).alloc _).alloc _, (Blk.new' (by simp)).alloc _, Blk.new' (by simp), (((Below.refl w.heap.size w).alloc (Nat.le_refl _) _).alloc (by simp) _).alloc (by simp <;> omega) _⟩
  obtain ⟨x0, x1, x2, x3, x4, x5⟩ := ha0.s.c6
  go_enter Try.func52, Try.ntmps52
  go_wp2_with fail
  refine ((unhide HRG) _).mono ?_
  rintro e w1 ⟨rfl, hb1⟩
  have hv1 := SS.below hb1 ha0
  clear ha0 hb1 x0 x1 x2 x3 x4 x5
  have m3 := hv1.r.lt
  obtain ⟨z0, z1, z2, z3, z4, z5⟩ := hv1.r.c6
  have fz0 := hv1.r.frozen 0
  have fz1 := hv1.r.frozen 1
  have fz2 := hv1.r.frozen 2
  have fz3 := hv1.r.frozen 3
  have fz4 := hv1.r.frozen 4
  have fz5 := hv1.r.frozen 5
  go_wp2
  refine bodyPost_ret (ret_tct rfl rfl (load_legs ((((((hv1.r.set_ 0 _).set_ 1 _).set_ 2 _).set_ 3 _).set_ 4 _).set_ 5 _))) rfl ⟨rfl, ?_⟩
  exact (((((hv1.b.setCell (by simp <;> omega) _).setCell (by simp <;> omega) _).setCell (by simp <;> omega) _).setCell (by simp <;> omega) _).setCell (by simp <;> omega) _).setCell (by simp <;> omega) _

set_option maxRecDepth 100000 in
set_option maxHeartbeats 3200000 in
theorem safe_shape (x : Nat → Lg) (per dead : Int) (b0 b1 b2 b3 b4 b5 : Bool) (A : Option Addr) (n c : Nat) (es : List Ed) (w : World) (hE : Sl w w.heap.size 3 A (es.map Ed.row)) (hn : n = es.length) (hm : n ≤ 1000000)
    (hr : rngOk (x 0) (x 1) (x 2) per dead = true) (hbad : onSame x b0 b1 b2 b3 b4 b5 = false ∨ shape per es = false) :
    Calls Try.prog 52 #[.agg #[.int .i64 ((x 0).s), .int .i64 ((x 0).j), .int .i64 ((x 1).s), .int .i64 ((x 1).j), .int .i64 ((x 2).s), .int .i64 ((x 2).j)], .agg #[.int .i64 per, .bool b0, .bool b1, .bool b2, .bool b3, .bool b4, .bool b5, .slice A n c], .int .i64 dead] w fun e w' => e = .returned (.tuple #[.bool false, .agg #[.int .i64 0, .int .i64 0, .int .i64 0, .int .i64 0, .int .i64 0, .int .i64 0], .iface 95 (.int .i64 11)]) ∧ Below w.heap.size w w' := by
  have HN := Lib.hid hn
  clear hn
  have hr0 := hr
  simp only [rngOk, perOk, deadOk, Bool.and_eq_true, decide_eq_true_eq] at hr0
  obtain ⟨⟨⟨⟨l0, l1⟩, l2⟩, hp1, hp2⟩, hd1, hd2⟩ := hr0
  have hk0 := legOk_lok l0
  have hk1 := legOk_lok l1
  have hk2 := legOk_lok l2
  have hs0' := hk0.s
  have hs1' := hk1.s
  have hs2' := hk2.s
  have hnq := neq_six_g b0 b1 b2 b3 b4 b5 ((x 0).s == 2) ((x 0).s == 1) ((x 1).s == 2) ((x 1).s == 1) ((x 2).s == 2) ((x 2).s == 1)
  rw [show (b0 == ((x 0).s == 2) && (b1 == ((x 0).s == 1) && (b2 == ((x 1).s == 2) && (b3 == ((x 1).s == 1) && (b4 == ((x 2).s == 2) && b5 == ((x 2).s == 1)))))) = onSame x b0 b1 b2 b3 b4 b5 from rfl] at hnq
  obtain ⟨os, hos⟩ : ∃ b, onSame x b0 b1 b2 b3 b4 b5 = b := ⟨_, rfl⟩
  obtain ⟨sh, hsh⟩ : ∃ b, shape per es = b := ⟨_, rfl⟩
  rw [hos] at hnq hbad
  rw [hsh] at hbad
  have hov := fun W => on_walk (x 0).s (x 0).j (x 1).s (x 1).j (x 2).s (x 2).j W
  have hrg := fun W => ranges_walk (x 0).s (x 0).j (x 1).s (x 1).j (x 2).s (x 2).j per dead W
  simp only [show rngOk ⟨(x 0).s, (x 0).j⟩ ⟨(x 1).s, (x 1).j⟩ ⟨(x 2).s, (x 2).j⟩ per dead = true from hr] at hrg
  have hso := fun (W : World) (h : Sl W W.heap.size 3 A (es.map Ed.row)) => sorted_walk per A n c es W h HN.out hm hp1 hp2
  simp only [hsh] at hso
  have HRG := hide hrg
  have HOV := hide hov
  have HSO := hide hso
  clear hrg hov hso hos hsh l0 l1 l2 hk0 hk1 hk2 hr hs0' hs1' hs2' 
  have ha0 : SS w (((w.alloc (.cells #[.int .i64 ((x 0).s), .int .i64 ((x 0).j), .int .i64 ((x 1).s), .int .i64 ((x 1).j), .int .i64 ((x 2).s), .int .i64 ((x 2).j)] 48)).alloc (.cells #[.int .i64 per, .bool b0, .bool b1, .bool b2, .bool b3, .bool b4, .bool b5, .slice A n c] 25)).alloc (.cells #[.int .i64 0, .int .i64 0, .int .i64 0, .int .i64 0, .int .i64 0, .int .i64 0] 48)) #[.int .i64 ((x 0).s), .int .i64 ((x 0).j), .int .i64 ((x 1).s), .int .i64 ((x 1).j), .int .i64 ((x 2).s), .int .i64 ((x 2).j)] #[.int .i64 per, .bool b0, .bool b1, .bool b2, .bool b3, .bool b4, .bool b5, .slice A n c] :=
    ⟨((Blk.new _ _ _).alloc _).alloc _, (Blk.new' (by simp)).alloc _, Blk.new' (by simp), (((Below.refl w.heap.size w).alloc (Nat.le_refl _) _).alloc (by simp) _).alloc (by simp <;> omega) _⟩
  obtain ⟨x0, x1, x2, x3, x4, x5⟩ := ha0.s.c6
  have hcs : (os = false) ∨ (os = true ∧ sh = false) := by cases os <;> cases sh <;> simp at hbad ⊢
  clear hbad
  go_enter Try.func52, Try.ntmps52
  go_wp2_with fail
  refine ((unhide HRG) _).mono ?_
  rintro e w1 ⟨rfl, hb1⟩
  have hv1 := SS.below hb1 ha0
  clear ha0 hb1 x0 x1 x2 x3 x4 x5
  rcases hcs with rfl | ⟨rfl, rfl⟩
  · rw [Bool.not_false] at hnq
    have l1 := hv1.s.lt
    have l2 := hv1.g.lt
    have l3 := hv1.r.lt
    obtain ⟨x0, x1, x2, x3, x4, x5⟩ := hv1.s.c6
    obtain ⟨y0, y1, y2, y3, y4, y5, y6, y7⟩ := hv1.g.c8
    go_wp2
    go_cut [37] from 25 to 38 (fun u37 wx => u37 = .bool true ∧ SS w wx #[.int .i64 ((x 0).s), .int .i64 ((x 0).j), .int .i64 ((x 1).s), .int .i64 ((x 1).j), .int .i64 ((x 2).s), .int .i64 ((x 2).j)] #[.int .i64 per, .bool b0, .bool b1, .bool b2, .bool b3, .bool b4, .bool b5, .slice A n c])
    case first =>
      first | (go_region_with (go_at_call 65; refine ((unhide HOV) _).mono ?_; rintro e w' ⟨rfl, hbq⟩; have hvq := SS.below hbq (SS.drew hv1); have k1 := hvq.s.lt; have k2 := hvq.g.lt; obtain ⟨_, k3, k4, k5, k6, k7, k8, k9, ka, kb, kc, kd, ke, kf, kg⟩ := SS.all hvq)) | fail
      all_goals
        go_wp2_with fail
        go_meet
        case rel => exact ⟨rfl, by repeat (first | exact hvq | refine SS.drew ?_)⟩
    case rest =>
      obtain ⟨rfl, hv⟩ := hcut
      clear hv1 l1 l2 l3 x0 x1 x2 x3 x4 x5 y0 y1 y2 y3 y4 y5 y6 y7 hnq
      have m3 := hv.r.lt
      obtain ⟨z0, z1, z2, z3, z4, z5⟩ := hv.r.c6
      have fz0 := hv.r.frozen 0
      have fz1 := hv.r.frozen 1
      have fz2 := hv.r.frozen 2
      have fz3 := hv.r.frozen 3
      have fz4 := hv.r.frozen 4
      have fz5 := hv.r.frozen 5
      go_wp2
      refine bodyPost_ret (ret_tct rfl rfl (load_legs ((((((hv.r.set_ 0 _).set_ 1 _).set_ 2 _).set_ 3 _).set_ 4 _).set_ 5 _))) rfl ⟨rfl, ?_⟩
      exact (((((hv.b.setCell (by simp <;> omega) _).setCell (by simp <;> omega) _).setCell (by simp <;> omega) _).setCell (by simp <;> omega) _).setCell (by simp <;> omega) _).setCell (by simp <;> omega) _
  · rw [Bool.not_true] at hnq
    have l1 := hv1.s.lt
    have l2 := hv1.g.lt
    have l3 := hv1.r.lt
    obtain ⟨x0, x1, x2, x3, x4, x5⟩ := hv1.s.c6
    obtain ⟨y0, y1, y2, y3, y4, y5, y6, y7⟩ := hv1.g.c8
    go_wp2
    go_cut [37] from 25 to 38 (fun u37 wx => u37 = .bool true ∧ SS w wx #[.int .i64 ((x 0).s), .int .i64 ((x 0).j), .int .i64 ((x 1).s), .int .i64 ((x 1).j), .int .i64 ((x 2).s), .int .i64 ((x 2).j)] #[.int .i64 per, .bool b0, .bool b1, .bool b2, .bool b3, .bool b4, .bool b5, .slice A n c])
    case first =>
      go_region_held3 (fun w' => SS w w' #[.int .i64 ((x 0).s), .int .i64 ((x 0).j), .int .i64 ((x 1).s), .int .i64 ((x 1).j), .int .i64 ((x 2).s), .int .i64 ((x 2).j)] #[.int .i64 per, .bool b0, .bool b1, .bool b2, .bool b3, .bool b4, .bool b5, .slice A n c] ∧ w'.cell? ⟨w.heap.size, 0, none⟩ = some (.int .i64 ((x 0).s)) ∧ w'.cell? ⟨w.heap.size, 1, none⟩ = some (.int .i64 ((x 0).j)) ∧ w'.cell? ⟨w.heap.size, 2, none⟩ = some (.int .i64 ((x 1).s)) ∧ w'.cell? ⟨w.heap.size, 3, none⟩ = some (.int .i64 ((x 1).j)) ∧ w'.cell? ⟨w.heap.size, 4, none⟩ = some (.int .i64 ((x 2).s)) ∧ w'.cell? ⟨w.heap.size, 5, none⟩ = some (.int .i64 ((x 2).j)) ∧ w'.cell? ⟨w.heap.size + 1, 0, none⟩ = some (.int .i64 per) ∧ w'.cell? ⟨w.heap.size + 1, 1, none⟩ = some (.bool b0) ∧ w'.cell? ⟨w.heap.size + 1, 2, none⟩ = some (.bool b1) ∧ w'.cell? ⟨w.heap.size + 1, 3, none⟩ = some (.bool b2) ∧ w'.cell? ⟨w.heap.size + 1, 4, none⟩ = some (.bool b3) ∧ w'.cell? ⟨w.heap.size + 1, 5, none⟩ = some (.bool b4) ∧ w'.cell? ⟨w.heap.size + 1, 6, none⟩ = some (.bool b5) ∧ w'.cell? ⟨w.heap.size + 1, 7, none⟩ = some (.slice A n c))
        (first | exact SS.all hv1 | exact SS.all (SS.drew hv1) | exact SS.all (SS.below' (by assumption) (by assumption)))
        (first | (go_at_call 65; refine ((unhide HOV) _).mono ?_; rintro e w' ⟨rfl, hbq⟩) | (go_at_call 72; refine ((unhide HSO) _ ?_).mono ?_; (exact SS.sl hE (by assumption)); rintro e w' ⟨rfl, hbq⟩))
      all_goals
        rename_i hz
        have hv3 := SS.one hz
        clear hz
        go_wp2_with fail
        go_meet
        case rel => exact ⟨rfl, hv3⟩
    case rest =>
      obtain ⟨rfl, hv⟩ := hcut
      clear hv1 l1 l2 l3 x0 x1 x2 x3 x4 x5 y0 y1 y2 y3 y4 y5 y6 y7 hnq
      have m3 := hv.r.lt
      obtain ⟨z0, z1, z2, z3, z4, z5⟩ := hv.r.c6
      have fz0 := hv.r.frozen 0
      have fz1 := hv.r.frozen 1
      have fz2 := hv.r.frozen 2
      have fz3 := hv.r.frozen 3
      have fz4 := hv.r.frozen 4
      have fz5 := hv.r.frozen 5
      go_wp2
      refine bodyPost_ret (ret_tct rfl rfl (load_legs ((((((hv.r.set_ 0 _).set_ 1 _).set_ 2 _).set_ 3 _).set_ 4 _).set_ 5 _))) rfl ⟨rfl, ?_⟩
      exact (((((hv.b.setCell (by simp <;> omega) _).setCell (by simp <;> omega) _).setCell (by simp <;> omega) _).setCell (by simp <;> omega) _).setCell (by simp <;> omega) _).setCell (by simp <;> omega) _

set_option maxRecDepth 100000 in
set_option maxHeartbeats 1600000 in
theorem rsafe_range (x : Nat → Lg) (per dead : Int) (b0 b1 b2 b3 b4 b5 : Bool) (A : Option Addr) (n c : Nat) (w : World) (hr : rngOk (x 0) (x 1) (x 2) per dead = false) :
    Calls Try.prog 53 #[.agg #[.int .i64 ((x 0).s), .int .i64 ((x 0).j), .int .i64 ((x 1).s), .int .i64 ((x 1).j), .int .i64 ((x 2).s), .int .i64 ((x 2).j)], .agg #[.int .i64 per, .bool b0, .bool b1, .bool b2, .bool b3, .bool b4, .bool b5, .slice A n c], .int .i64 dead] w fun e w' => e = .returned (.tuple #[.bool false, .agg #[.int .i64 0, .int .i64 0, .int .i64 0, .int .i64 0, .int .i64 0, .int .i64 0], .int .i64 3]) ∧ Below w.heap.size w w' := by
  have hrg := fun W => rranges_bad (x 0).s (x 0).j (x 1).s (x 1).j (x 2).s (x 2).j per dead W hr
  have HRG := hide hrg
  clear hrg hr
  have ha0 : SS w (((w.alloc (.cells #[.int .i64 ((x 0).s), .int .i64 ((x 0).j), .int .i64 ((x 1).s), .int .i64 ((x 1).j), .int .i64 ((x 2).s), .int .i64 ((x 2).j)] 48)).alloc (.cells #[.int .i64 per, .bool b0, .bool b1, .bool b2, .bool b3, .bool b4, .bool b5, .slice A n c] 25)).alloc (.cells #[.int .i64 0, .int .i64 0, .int .i64 0, .int .i64 0, .int .i64 0, .int .i64 0] 48)) #[.int .i64 ((x 0).s), .int .i64 ((x 0).j), .int .i64 ((x 1).s), .int .i64 ((x 1).j), .int .i64 ((x 2).s), .int .i64 ((x 2).j)] #[.int .i64 per, .bool b0, .bool b1, .bool b2, .bool b3, .bool b4, .bool b5, .slice A n c] :=
    ⟨((Blk.new _ _ _).alloc _).alloc _, (Blk.new' (by simp)).alloc _, Blk.new' (by simp), (((Below.refl w.heap.size w).alloc (Nat.le_refl _) _).alloc (by simp) _).alloc (by simp <;> omega) _⟩
  obtain ⟨x0, x1, x2, x3, x4, x5⟩ := ha0.s.c6
  go_enter Try.func53, Try.ntmps53
  go_wp2_with fail
  refine ((unhide HRG) _).mono ?_
  rintro e w1 ⟨rfl, hb1⟩
  have hv1 := SS.below hb1 ha0
  clear ha0 hb1 x0 x1 x2 x3 x4 x5
  have m3 := hv1.r.lt
  obtain ⟨z0, z1, z2, z3, z4, z5⟩ := hv1.r.c6
  have fz0 := hv1.r.frozen 0
  have fz1 := hv1.r.frozen 1
  have fz2 := hv1.r.frozen 2
  have fz3 := hv1.r.frozen 3
  have fz4 := hv1.r.frozen 4
  have fz5 := hv1.r.frozen 5
  go_wp2
  refine bodyPost_ret (ret_tct rfl rfl (load_legs ((((((hv1.r.set_ 0 _).set_ 1 _).set_ 2 _).set_ 3 _).set_ 4 _).set_ 5 _))) rfl ⟨rfl, ?_⟩
  exact (((((hv1.b.setCell (by simp <;> omega) _).setCell (by simp <;> omega) _).setCell (by simp <;> omega) _).setCell (by simp <;> omega) _).setCell (by simp <;> omega) _).setCell (by simp <;> omega) _

set_option maxRecDepth 100000 in
set_option maxHeartbeats 3200000 in
theorem rsafe_shape (x : Nat → Lg) (per dead : Int) (b0 b1 b2 b3 b4 b5 : Bool) (A : Option Addr) (n c : Nat) (es : List Ed) (w : World) (hE : Sl w w.heap.size 3 A (es.map Ed.row)) (hn : n = es.length) (hm : n ≤ 1000000)
    (hr : rngOk (x 0) (x 1) (x 2) per dead = true) (hbad : onSame x b0 b1 b2 b3 b4 b5 = false ∨ shape per es = false) :
    Calls Try.prog 53 #[.agg #[.int .i64 ((x 0).s), .int .i64 ((x 0).j), .int .i64 ((x 1).s), .int .i64 ((x 1).j), .int .i64 ((x 2).s), .int .i64 ((x 2).j)], .agg #[.int .i64 per, .bool b0, .bool b1, .bool b2, .bool b3, .bool b4, .bool b5, .slice A n c], .int .i64 dead] w fun e w' => e = .returned (.tuple #[.bool false, .agg #[.int .i64 0, .int .i64 0, .int .i64 0, .int .i64 0, .int .i64 0, .int .i64 0], .int .i64 11]) ∧ Below w.heap.size w w' := by
  have HN := Lib.hid hn
  clear hn
  have hr0 := hr
  simp only [rngOk, perOk, deadOk, Bool.and_eq_true, decide_eq_true_eq] at hr0
  obtain ⟨⟨⟨⟨l0, l1⟩, l2⟩, hp1, hp2⟩, hd1, hd2⟩ := hr0
  have hk0 := legOk_lok l0
  have hk1 := legOk_lok l1
  have hk2 := legOk_lok l2
  have hs0' := hk0.s
  have hs1' := hk1.s
  have hs2' := hk2.s
  have hnq := neq_six_g b0 b1 b2 b3 b4 b5 ((x 0).s == 2) ((x 0).s == 1) ((x 1).s == 2) ((x 1).s == 1) ((x 2).s == 2) ((x 2).s == 1)
  rw [show (b0 == ((x 0).s == 2) && (b1 == ((x 0).s == 1) && (b2 == ((x 1).s == 2) && (b3 == ((x 1).s == 1) && (b4 == ((x 2).s == 2) && b5 == ((x 2).s == 1)))))) = onSame x b0 b1 b2 b3 b4 b5 from rfl] at hnq
  obtain ⟨os, hos⟩ : ∃ b, onSame x b0 b1 b2 b3 b4 b5 = b := ⟨_, rfl⟩
  obtain ⟨sh, hsh⟩ : ∃ b, shape per es = b := ⟨_, rfl⟩
  rw [hos] at hnq hbad
  rw [hsh] at hbad
  have hov := fun W => ron_walk (x 0).s (x 0).j (x 1).s (x 1).j (x 2).s (x 2).j W
  have hrg := fun W => rranges_walk (x 0).s (x 0).j (x 1).s (x 1).j (x 2).s (x 2).j per dead W (by omega) (by omega) hk0.j0 hk0.j1 (by omega) (by omega) hk1.j0 hk1.j1 (by omega) (by omega) hk2.j0 hk2.j1 hp1 hp2 hd1 hd2
  have hso := fun (W : World) (h : Sl W W.heap.size 3 A (es.map Ed.row)) => edges24_walk per b0 b1 b2 b3 b4 b5 A n c es W h HN.out hm
  obtain ⟨co, hco⟩ : ∃ c, shp per es = c := ⟨_, rfl⟩
  have hsp : (sh = true ∧ co = 0) ∨ (sh = false ∧ co = 11) := by rw [← hco]; unfold shp; rw [hsh]; cases sh <;> simp
  simp only [hco] at hso
  have HRG := hide hrg
  have HOV := hide hov
  have HSO := hide hso
  clear hrg hov hso hos hsh l0 l1 l2 hk0 hk1 hk2 hr hs0' hs1' hs2' hco
  have ha0 : SS w (((w.alloc (.cells #[.int .i64 ((x 0).s), .int .i64 ((x 0).j), .int .i64 ((x 1).s), .int .i64 ((x 1).j), .int .i64 ((x 2).s), .int .i64 ((x 2).j)] 48)).alloc (.cells #[.int .i64 per, .bool b0, .bool b1, .bool b2, .bool b3, .bool b4, .bool b5, .slice A n c] 25)).alloc (.cells #[.int .i64 0, .int .i64 0, .int .i64 0, .int .i64 0, .int .i64 0, .int .i64 0] 48)) #[.int .i64 ((x 0).s), .int .i64 ((x 0).j), .int .i64 ((x 1).s), .int .i64 ((x 1).j), .int .i64 ((x 2).s), .int .i64 ((x 2).j)] #[.int .i64 per, .bool b0, .bool b1, .bool b2, .bool b3, .bool b4, .bool b5, .slice A n c] :=
    ⟨((Blk.new _ _ _).alloc _).alloc _, (Blk.new' (by simp)).alloc _, Blk.new' (by simp), (((Below.refl w.heap.size w).alloc (Nat.le_refl _) _).alloc (by simp) _).alloc (by simp <;> omega) _⟩
  obtain ⟨x0, x1, x2, x3, x4, x5⟩ := ha0.s.c6
  have hcs : (os = false) ∨ (os = true ∧ sh = false) := by cases os <;> cases sh <;> simp at hbad ⊢
  clear hbad
  go_enter Try.func53, Try.ntmps53
  go_wp2_with fail
  refine ((unhide HRG) _).mono ?_
  rintro e w1 ⟨rfl, hb1⟩
  have hv1 := SS.below hb1 ha0
  clear ha0 hb1 x0 x1 x2 x3 x4 x5
  have l2 := hv1.g.lt
  obtain ⟨y0, y1, y2, y3, y4, y5, y6, y7⟩ := hv1.g.c8
  go_wp2_with fail
  refine ((unhide HSO) _ ((hE.below hv1.b).more hv1.b.size)).mono ?_
  rintro e w2 ⟨rfl, hb2⟩
  have hv0 := hv1
  clear hv1 y0 y1 y2 y3 y4 y5 y6 y7 l2
  have hv1 := SS.below hb2 hv0
  clear hv0 hb2
  rcases hsp with ⟨rfl, rfl⟩ | ⟨rfl, rfl⟩
  · have hcs2 : os = false := by rcases hcs with h | ⟨_, h⟩ <;> simp_all
    subst hcs2
    clear hcs
    rw [Bool.not_false] at hnq
    have l1 := hv1.s.lt
    have l2 := hv1.g.lt
    have l3 := hv1.r.lt
    obtain ⟨x0, x1, x2, x3, x4, x5⟩ := hv1.s.c6
    obtain ⟨y0, y1, y2, y3, y4, y5, y6, y7⟩ := hv1.g.c8
    go_wp2
    go_cut [39] from 31 to 40 (fun u39 wx => u39 = .bool true ∧ SS w wx #[.int .i64 ((x 0).s), .int .i64 ((x 0).j), .int .i64 ((x 1).s), .int .i64 ((x 1).j), .int .i64 ((x 2).s), .int .i64 ((x 2).j)] #[.int .i64 per, .bool b0, .bool b1, .bool b2, .bool b3, .bool b4, .bool b5, .slice A n c])
    case first =>
      first | (go_region_with (go_at_call 70; refine ((unhide HOV) _).mono ?_; rintro e w' ⟨rfl, hbq⟩; have hvq := SS.below hbq (SS.drew hv1); have k1 := hvq.s.lt; have k2 := hvq.g.lt; obtain ⟨_, k3, k4, k5, k6, k7, k8, k9, ka, kb, kc, kd, ke, kf, kg⟩ := SS.all hvq)) | fail
      all_goals
        go_wp2_with fail
        go_meet
        case rel => exact ⟨rfl, by repeat (first | exact hvq | refine SS.drew ?_)⟩
    case rest =>
      obtain ⟨rfl, hv⟩ := hcut
      clear hv1 l1 l2 l3 x0 x1 x2 x3 x4 x5 y0 y1 y2 y3 y4 y5 y6 y7 hnq
      have m3 := hv.r.lt
      obtain ⟨z0, z1, z2, z3, z4, z5⟩ := hv.r.c6
      have fz0 := hv.r.frozen 0
      have fz1 := hv.r.frozen 1
      have fz2 := hv.r.frozen 2
      have fz3 := hv.r.frozen 3
      have fz4 := hv.r.frozen 4
      have fz5 := hv.r.frozen 5
      go_wp2
      refine bodyPost_ret (ret_tct rfl rfl (load_legs ((((((hv.r.set_ 0 _).set_ 1 _).set_ 2 _).set_ 3 _).set_ 4 _).set_ 5 _))) rfl ⟨rfl, ?_⟩
      exact (((((hv.b.setCell (by simp <;> omega) _).setCell (by simp <;> omega) _).setCell (by simp <;> omega) _).setCell (by simp <;> omega) _).setCell (by simp <;> omega) _).setCell (by simp <;> omega) _
  · clear hcs
    have l1 := hv1.s.lt
    have l2 := hv1.g.lt
    have l3 := hv1.r.lt
    obtain ⟨x0, x1, x2, x3, x4, x5⟩ := hv1.s.c6
    obtain ⟨y0, y1, y2, y3, y4, y5, y6, y7⟩ := hv1.g.c8
    go_wp2
    go_quiet (fail)
    have hv := hv1.drewN nq
    clear hv1 l1 l2 l3 x0 x1 x2 x3 x4 x5 y0 y1 y2 y3 y4 y5 y6 y7 hnq
    have m3 := hv.r.lt
    obtain ⟨z0, z1, z2, z3, z4, z5⟩ := hv.r.c6
    have fz0 := hv.r.frozen 0
    have fz1 := hv.r.frozen 1
    have fz2 := hv.r.frozen 2
    have fz3 := hv.r.frozen 3
    have fz4 := hv.r.frozen 4
    have fz5 := hv.r.frozen 5
    go_wp2
    refine bodyPost_ret (ret_tct rfl rfl (load_legs ((((((hv.r.set_ 0 _).set_ 1 _).set_ 2 _).set_ 3 _).set_ 4 _).set_ 5 _))) rfl ⟨rfl, ?_⟩
    exact (((((hv.b.setCell (by simp <;> omega) _).setCell (by simp <;> omega) _).setCell (by simp <;> omega) _).setCell (by simp <;> omega) _).setCell (by simp <;> omega) _).setCell (by simp <;> omega) _

end Go.Proofs.Ytgnojdiecgfeaaa
