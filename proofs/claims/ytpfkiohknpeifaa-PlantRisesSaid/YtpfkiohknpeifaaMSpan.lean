/- The walks of the reference's Inverse, of reach, and of the reference's span. -/
import Derived.Test.YtpfkiohknpeifaaMInv
import Derived.Test.YtpfkiohknpeifaaMcC
import Derived.Deep.CutRange
namespace Go.Proofs.Ytpfkiohknpeifaa
open Go.RowKit
theorem wrapN {N : Nat} (h : N ≤ 2147483648) : wrap64 ((N : Int) + 1) = (N : Int) + 1 ∧ IntKind.i64.wrap ((N : Int) + 1) = (N : Int) + 1 :=
  ⟨by unfold wrap64; omega, IntWalk.i64_in _ (by omega)⟩
/-- The last x at which a curve is at most c. -/
def spHi (X Y : List Int) (c : Int) : Int := g X 0 + ff (gtB X Y c) ((g X (X.length - 1) - g X 0).toNat + 1) - 1
theorem gt_ge (X Y : List Int) (c : Int) : gtB X Y c = geB X Y (c + 1) := by
  funext k
  unfold gtB geB
  congr 1
theorem spHi_eq {X Y : List Int} (ok : CvOk X Y) (c : Int) : spHi X Y c = if c < g Y (X.length - 1) then invI X Y (c + 1) - 1 else g X (X.length - 1) := by
  have hm := (mono_le ok (i := 0) (j := X.length - 1) (by omega) (by have := ok.two; omega)).1
  unfold spHi invI
  obtain ⟨N, hN⟩ : ∃ N : Nat, (g X (X.length - 1) - g X 0).toNat = N := ⟨_, rfl⟩
  have hN' : g X 0 + (N : Int) = g X (X.length - 1) := by omega
  rw [hN]
  split
  · rename_i h
    rw [gt_ge]
    have hp : geB X Y (c + 1) N = true := by
      unfold geB
      rw [decide_eq_true_eq, hN', at_last ok (Int.le_refl _)]
      omega
    have hl := ff_le (geB X Y (c + 1)) N
    have : ff (geB X Y (c + 1)) (N + 1) = ff (geB X Y (c + 1)) N := by
      show (if ff (geB X Y (c + 1)) N < N then ff (geB X Y (c + 1)) N else if geB X Y (c + 1) N = true then N else N + 1) = _
      split
      · rfl
      · first | omega | (rw [if_pos hp]; omega)
    rw [this]
  · rename_i h
    have : ff (gtB X Y c) (N + 1) = N + 1 := by
      refine ff_none fun i _ => ?_
      unfold gtB
      rw [decide_eq_false_iff_not]
      have := (at_bd ok (g X 0 + i)).2
      omega
    rw [this]
    omega
theorem spHi_bd {X Y : List Int} (ok : CvOk X Y) (c : Int) : g X 0 - 1 ≤ spHi X Y c ∧ spHi X Y c ≤ g X (X.length - 1) := by
  have hm := (mono_le ok (i := 0) (j := X.length - 1) (by omega) (by have := ok.two; omega)).1
  have := ff_le (gtB X Y c) ((g X (X.length - 1) - g X 0).toNat + 1)
  unfold spHi
  omega
section
variable {w0 w w' : World} {X Y : List Int} {ax ay : Addr} {n cX cY b1 b2 : Nat} {y : Int}
theorem QS.alloc (h : QS w0 w X Y ax ay n cX cY b1 b2 y) (o : Obj) : QS w0 (w.alloc o) X Y ax ay n cX cY b1 b2 y := ⟨h.p.alloc o, h.q.alloc o, h.sx.alloc h.b.size o, h.sy.alloc h.b.size o, h.b.alloc h.b.size o⟩
theorem QS.all4 {pf pl : Addr} {u v : Value} (h : QS w0 w X Y ax ay n cX cY b1 b2 y) (pfb : pf.block < w0.heap.size) (plb : pl.block < w0.heap.size) (f0 : w0.cell? pf = some u) (z0 : w0.cell? pl = some v) :
    QS w0 w X Y ax ay n cX cY b1 b2 y ∧ w.cell? ⟨b1, 0, none⟩ = some (.slice (some ax) n cX) ∧ w.cell? pf = some u ∧ w.cell? pl = some v := ⟨h, h.p.c2.1, (h.b.cell (p := pf) pfb).trans f0, (h.b.cell (p := pl) plb).trans z0⟩
end
set_option maxRecDepth 100000 in
set_option maxHeartbeats 1600000 in
theorem reachM (X Y : List Int) (ax ay : Addr) (n cX cY : Nat) (c : Int) (hcb : 0 ≤ c ∧ c ≤ 1048576) (w : World) (SX : Sl w w.heap.size 1 (some ax) (rows X)) (SY : Sl w w.heap.size 1 (some ay) (rows Y)) (hn : n = X.length) (ok : CvOk X Y) (hc : cvCode X Y = 0) (hy0 : -c ≤ g Y (X.length - 1)) :
    Calls Try.prog 48 #[.agg #[.slice (some ax) n cX, .slice (some ay) n cY], .int .i64 c] w fun e w' => e = .returned (.tuple #[.int .i64 (invI X Y (-c)), .int .i64 (spHi X Y c), .nilIface]) ∧ Below w.heap.size w w' := by
  have hb0 := ((Below.refl w.heap.size w).alloc (Nat.le_refl _) (.cells #[.slice (some ax) n cX, .slice (some ay) n cY] 24)).alloc (by simp) (.cells #[.int .i64 c] 3)
  have g0 := (Blk.new w 24 #[.slice (some ax) n cX, .slice (some ay) n cY]).alloc (.cells #[.int .i64 c] 3)
  have g1 := Blk.new' (w := w.alloc (.cells #[.slice (some ax) n cX, .slice (some ay) n cY] 24)) (t := 3) (cs := #[.int .i64 c]) (g := w.heap.size + 1) (by simp)
  have hq0 : QS w ((w.alloc (.cells #[.slice (some ax) n cX, .slice (some ay) n cY] 24)).alloc (.cells #[.int .i64 c] 3)) X Y ax ay n cX cY w.heap.size (w.heap.size + 1) c := ⟨g0, g1, SX.below hb0, SY.below hb0, hb0⟩
  have hmf : ∀ (fn : Fn) (first cap : Array Value) (w : World), (Instr.makeFunc fn first cap).run Try.prog w = .ok (.func fn first cap) w := fun _ _ _ _ => rfl
  have n2 : 2 ≤ n := by have := ok.two; omega
  have n32 : n ≤ 32 := by have := ok.most; omega
  have b0 := ok.bd 0 (by omega)
  have bl := ok.bd (X.length - 1) (by omega)
  have hm := (mono_le ok (i := 0) (j := X.length - 1) (by omega) (by omega)).1
  obtain ⟨pf, pfa, pfb, f0⟩ := SX.at1' (k := 0) (by omega)
  obtain ⟨pl, pla, plb, z0⟩ := SX.at1' (k := n - 1) (by omega)
  obtain ⟨N, hN⟩ : ∃ N : Nat, (g X (X.length - 1) - g X 0).toNat = N := ⟨_, rfl⟩
  have hse := fun (b3 : Nat) (W : World) (h : QS W W X Y ax ay n cX cY w.heap.size (w.heap.size + 1) c) (h3 : Blk W b3 3 #[.int .i64 (g X 0)]) => searchReach X Y ax ay n cX cY w.heap.size (w.heap.size + 1) c b3 (N + 1) W h h3 hc hn ok (by omega)
  have hin := fun (W : World) (h1 : Sl W W.heap.size 1 (some ax) (rows X)) (h2 : Sl W W.heap.size 1 (some ay) (rows Y)) => invM X Y ax ay n cX cY (-c) W h1 h2 hn ok hc hy0
  have hff := ff_le (gtB X Y c) (N + 1)
  have hv : spHi X Y c = g X 0 + ff (gtB X Y c) (N + 1) - 1 := by unfold spHi; rw [hN]
  rw [hv]
  obtain ⟨F, hF⟩ : ∃ F, ff (gtB X Y c) (N + 1) = F := ⟨_, rfl⟩
  simp only [hF] at hse hff ⊢
  obtain ⟨I1, hI1⟩ : ∃ x, invI X Y (-c) = x := ⟨_, rfl⟩
  simp only [hI1] at hin ⊢
  rw [← hn] at hN bl hm hy0
  obtain ⟨x0, hx0⟩ : ∃ x, g X 0 = x := ⟨_, rfl⟩
  obtain ⟨xl, hxl⟩ : ∃ x, g X (n - 1) = x := ⟨_, rfl⟩
  simp only [hx0] at hse
  rw [hx0] at f0 b0 hN hm ⊢
  rw [hxl] at z0 bl hN hm
  have hi0 : 0 < n := by omega
  have hi1 : (0 : Int) < (n : Int) := by omega
  have hi5 : (0 : Int) ≤ 0 := by omega
  have il : ((n : Int) - 1).toNat = n - 1 := by omega
  have hi2 : (0 : Int) ≤ (n : Int) - 1 := by omega
  have hi3 : (n : Int) - 1 < (n : Int) := by omega
  have hi4 : IntKind.i64.wrap ((n : Int) - 1) = (n : Int) - 1 := IntWalk.i64_in _ (by omega)
  have hi6 : 1 ≤ n := by omega
  have hi7 : (1 : Int) ≤ (n : Int) := by omega
  have hd : xl - x0 = (N : Int) := by omega
  have e1 : IntKind.i64.wrap (xl - x0) = (N : Int) := by rw [hd]; exact IntWalk.i64_in _ (by omega)
  have e2 : IntKind.i64.wrap (x0 + F) = x0 + F := IntWalk.i64_in _ (by omega)
  have e3 : IntKind.i64.wrap (x0 + F - 1) = x0 + F - 1 := IntWalk.i64_in _ (by omega)
  have e4 : IntKind.i64.wrap (N : Int) = (N : Int) := IntWalk.i64_in _ (by omega)
  have e5 : IntKind.i64.wrap (-c) = -c := IntWalk.i64_in _ (by omega)
  have e6 : wrap64 (-c) = -c := by unfold wrap64; omega
  have hNb : N ≤ 2147483648 := by omega
  have e8 := (wrapN hNb).1
  have e9 := (wrapN hNb).2
  have e7 : (((N + 1 : Nat)) : Int) = (N : Int) + 1 := by push_cast; rfl
  simp only [e7] at hse
  have HSE := hide hse
  have HIN := hide hin
  clear hse hin hF hI1 hx0 hxl hv hN bl hm ok hc hn e7
  have c0 := hq0.p.c2.1
  go_enter Try.func48, Try.ntmps48
  go_wp2_with fail
  with_reducible refine ((unhide HIN) _ hq0.x hq0.yy).mono ?_
  rintro e w1 ⟨rfl, hb1⟩
  have hq1 := QS.below hb1 hq0
  have hs1 := hq1.b.size
  clear c0
  have c0 := hq1.p.c2.1
  have c1 := hq1.p.c2.2
  have d0 := hq1.q.c1
  have l1 := hq1.p.lt
  have l2 := hq1.q.lt
  have f1 := (hq1.b.cell (p := pf) pfb).trans f0
  have z1 := (hq1.b.cell (p := pl) plb).trans z0
  have pfb1 : pf.block < w1.heap.size := by omega
  have plb1 : pl.block < w1.heap.size := by omega
  go_wp2_with fail
  go_cut [7, 8] from 20 to 31 (fun u7 u8 wx => u8 = .int .i64 xl ∧ ∃ b, u7 = .pointer (some ⟨b, 0, none⟩) ∧ QS w wx X Y ax ay n cX cY w.heap.size (w.heap.size + 1) c ∧ Blk wx b 3 #[.int .i64 x0])
  case first =>
    go_region_held3 (fun w' => QS w w' X Y ax ay n cX cY w.heap.size (w.heap.size + 1) c ∧ w'.cell? ⟨w.heap.size, 0, none⟩ = some (.slice (some ax) n cX) ∧ w'.cell? pf = some (.int .i64 x0) ∧ w'.cell? pl = some (.int .i64 xl))
      (first | (refine QS.all4 ?_ pfb plb f0 z0; repeat (first | with_reducible exact hq1 | with_reducible refine QS.drew ?_ | with_reducible refine QS.alloc ?_ _)))
      (fail)
    all_goals
      go_wp2_with fail
      go_meet
      case rel => exact ⟨rfl, _, rfl, (hq1.drew.alloc _), Blk.new _ _ _⟩
  case rest =>
    obtain ⟨rfl, b3, rfl, hq2, g3⟩ := hcut
    have d2 := hq2.q.c1
    have d3 := g3.c1
    have l3 := hq2.p.lt
    have l4 := hq2.q.lt
    have l5 := g3.lt
    go_wp2_with fail
    with_reducible refine ((unhide HSE) _ _ hq2.self g3).mono ?_
    rintro e w4 ⟨rfl, hb4⟩
    have hq4 := QS.below hb4 hq2
    have g4 := g3.below hb4 g3.lt
    have d4 := g4.c1
    have l6 := g4.lt
    clear d2 d3
    go_wp2
    go_quiet (fail)
    go_wp2
    exact bodyPost_ret (results_tmp3 rfl _ _ _) rfl ⟨rfl, below_drewN hq4.b _⟩
end Go.Proofs.Ytpfkiohknpeifaa
