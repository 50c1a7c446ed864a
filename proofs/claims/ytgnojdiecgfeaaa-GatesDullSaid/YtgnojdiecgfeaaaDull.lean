/- The walk of the statement GatesDull. -/
import Derived.Test.YtgnojdiecgfeaaaPlainM
import Derived.Test.YtgnojdiecgfeaaaGTrips
namespace Go.Proofs.Ytgnojdiecgfeaaa
open Go.RowKit

theorem idx62_0 (a b c : Value) (w : World) : (Instr.index 62 (.agg #[a, b, c]) (.int .i64 0)).run Try.prog w = .ok a w := by kernel_rfl
theorem idx62_1 (a b c : Value) (w : World) : (Instr.index 62 (.agg #[a, b, c]) (.int .i64 1)).run Try.prog w = .ok b w := by kernel_rfl
theorem idx62_2 (a b c : Value) (w : World) : (Instr.index 62 (.agg #[a, b, c]) (.int .i64 2)).run Try.prog w = .ok c w := by kernel_rfl
/-- Run over a period in which each leg is always, or never, asked for. -/
theorem run_dull (u : Nat → Bool) (per dd q0 q1 q2 : Int) (hp1 : 64 ≤ per) (hp2 : per ≤ 4096) (hd1 : 1 ≤ dd) (hd2 : dd ≤ 1024) (e0 : q0 = qq u per 0) (e1 : q1 = qq u per 1) (e2 : q2 = qq u per 2) (z : Nat → Lg) (hz : ∀ l, l < 3 → Lok (z l)) (w : World) :
    Calls Try.prog 32 #[.agg #[.int .i64 ((z 0).s), .int .i64 ((z 0).j), .int .i64 ((z 1).s), .int .i64 ((z 1).j), .int .i64 ((z 2).s), .int .i64 ((z 2).j)], .agg #[.int .i64 0, .int .i64 q0, .int .i64 0, .int .i64 q1, .int .i64 0, .int .i64 q2], .int .i64 per, .int .i64 dd, .int .i64 per] w fun e w' => ∃ (A : Option Addr) (n c : Nat) (y : Nat → Lg),
      e = .returned (.tuple #[.agg #[.int .i64 per, .bool ((z 0).s == 2), .bool ((z 0).s == 1), .bool ((z 1).s == 2), .bool ((z 1).s == 1), .bool ((z 2).s == 2), .bool ((z 2).s == 1), .slice A n c], .agg #[.int .i64 ((y 0).s), .int .i64 ((y 0).j), .int .i64 ((y 1).s), .int .i64 ((y 1).j), .int .i64 ((y 2).s), .int .i64 ((y 2).j)], .nilIface]) ∧ (∀ l, l < 3 → Lok (y l) ∧ Dul dd (vv u l) (y l) ∧ 64 ≤ (y l).j ∧ (Dul dd (vv u l) (z l) → min ((z l).j + 64) 4096 ≤ (y l).j)) ∧
      ((∀ l, l < 3 → Dul dd (vv u l) (z l) ∧ 1024 < (z l).j) → n = 0 ∧ ∀ l, l < 3 → (y l).s = vv u l) ∧ Below w.heap.size w w' := by
  subst e0 e1 e2
  have hq : ∀ l, 0 ≤ qq u per l ∧ qq u per l ≤ per := fun l => by unfold qq; split <;> omega
  refine (run_walk z (fun _ => 0) (qq u per) per dd per w (lok_rng hz hp1 hp2 hd1 hd2) (by omega) (Int.le_refl _) (Int.le_refl _) (hq 0).1 (hq 0).2 (Int.le_refl _) (hq 1).1 (hq 1).2 (Int.le_refl _) (hq 2).1 (hq 2).2 ⟨per, dd, per, fun _ => 0, qq u per, z⟩ rfl).mono ?_
  rintro e w' ⟨A, n, c, rfl, hn, _, _, hb⟩
  have hw := fun (m : Nat) (_ : m < 3) (t : Nat) (ht : t < per.toNat) => dull_want u per dd z m t ht
  refine ⟨A, n, c, fun l => Rq.at_ ⟨per, dd, per, fun _ => 0, qq u per, z⟩ l per.toNat, rfl, fun l hl => dull_run (r := ⟨per, dd, per, fun _ => 0, qq u per, z⟩) (v := vv u) hp1 hd1 hw hz l hl, fun h0 => ?_, hb⟩
  have := dull_end (r := ⟨per, dd, per, fun _ => 0, qq u per, z⟩) (v := vv u) hp1 hd1 hd2 (fun m _ => vv_ne u m) hw h0
  refine ⟨?_, this.2⟩
  rw [hn]
  show (Rq.es ⟨per, dd, per, fun _ => 0, qq u per, z⟩ per.toNat).length = 0
  rw [this.1]
  rfl

set_option maxRecDepth 100000 in
set_option maxHeartbeats 6400000 in
theorem gatesDull_walk (x : Nat → Lg) (f o : Nat → Int) (p0 d0 t0 : Int) (u0 u1 u2 : Bool) (w : World) :
    Calls Try.prog 11 #[.agg (cellsL x), .agg (cellsD f o p0 d0 t0), .agg #[.bool u0, .bool u1, .bool u2]] w fun e w' => e = .returned (.bool true) ∧ Below w.heap.size w w' := by
  have g0 := ((Blk.new w 48 (cellsL x)).alloc (.cells (cellsD f o p0 d0 t0) 53)).alloc (.cells #[.bool u0, .bool u1, .bool u2] 62)
  have g1 := (Blk.new' (w := w.alloc (.cells (cellsL x) 48)) (t := 53) (cs := cellsD f o p0 d0 t0) (g := w.heap.size + 1) (by simp)).alloc (.cells #[.bool u0, .bool u1, .bool u2] 62)
  have g2 := Blk.new' (w := (w.alloc (.cells (cellsL x) 48)).alloc (.cells (cellsD f o p0 d0 t0) 53)) (t := 62) (cs := #[.bool u0, .bool u1, .bool u2]) (g := w.heap.size + 1 + 1) (by simp)
  have hb0 := (((Below.refl w.heap.size w).alloc (Nat.le_refl _) (.cells (cellsL x) 48)).alloc (by simp) (.cells (cellsD f o p0 d0 t0) 53)).alloc (by simp <;> omega) (.cells #[.bool u0, .bool u1, .bool u2] 62)
  have hst := fun W => state_walk x W
  have hdr := fun W => drive_walk f o p0 d0 t0 p0 d0 W
  have hpb := clipI_bds (n := p0) (lo := 64) (hi := 4096) (by omega)
  have hdb := clipI_bds (n := d0) (lo := 1) (hi := 1024) (by omega)
  obtain ⟨per, hper⟩ : ∃ p, clipI p0 64 4096 = p := ⟨_, rfl⟩
  obtain ⟨dd, hdd⟩ : ∃ p, clipI d0 1 1024 = p := ⟨_, rfl⟩
  rw [hper] at hpb
  rw [hdd] at hdb
  simp only [hper, hdd] at hdr
  obtain ⟨hp1, hp2⟩ := hpb
  obtain ⟨hd1, hd2⟩ := hdb
  obtain ⟨tt, htt⟩ : ∃ p, clipI t0 0 per = p := ⟨_, rfl⟩
  simp only [htt] at hdr
  have hloks : ∀ l, l < 3 → Lok (stL x l) := fun l _ => legOk_lok (stL_ok x l)
  obtain ⟨z, hz⟩ : ∃ z, stL x = z := ⟨_, rfl⟩
  obtain ⟨F, hF⟩ : ∃ F, dvF f per = F := ⟨_, rfl⟩
  obtain ⟨O, hO⟩ : ∃ O, dvO f o per = O := ⟨_, rfl⟩
  rw [hz] at hst hloks
  rw [hF, hO] at hdr
  clear hz hF hO hper hdd htt
  obtain ⟨u, hu⟩ : ∃ u, p3 u0 u1 u2 = u := ⟨_, rfl⟩
  obtain ⟨q0, hq0⟩ : ∃ q, qq u per 0 = q := ⟨_, rfl⟩
  obtain ⟨q1, hq1⟩ : ∃ q, qq u per 1 = q := ⟨_, rfl⟩
  obtain ⟨q2, hq2⟩ : ∃ q, qq u per 2 = q := ⟨_, rfl⟩
  have c0 : (u0 = true ∧ q0 = per ∧ vv u 0 = 2) ∨ (u0 = false ∧ q0 = 0 ∧ vv u 0 = 1) := by subst hu hq0; cases u0 <;> simp [qq, vv, p3]
  have c1 : (u1 = true ∧ q1 = per ∧ vv u 1 = 2) ∨ (u1 = false ∧ q1 = 0 ∧ vv u 1 = 1) := by subst hu hq1; cases u1 <;> simp [qq, vv, p3]
  have c2 : (u2 = true ∧ q2 = per ∧ vv u 2 = 2) ∨ (u2 = false ∧ q2 = 0 ∧ vv u 2 = 1) := by subst hu hq2; cases u2 <;> simp [qq, vv, p3]
  have hru := fun (z : Nat → Lg) (hz : ∀ l, l < 3 → Lok (z l)) (W : World) => run_dull u per dd q0 q1 q2 hp1 hp2 hd1 hd2 hq0.symm hq1.symm hq2.symm z hz W
  have i0 := idx62_0 (.bool u0) (.bool u1) (.bool u2)
  have i1 := idx62_1 (.bool u0) (.bool u1) (.bool u2)
  have i2 := idx62_2 (.bool u0) (.bool u1) (.bool u2)
  have HC0 := Lib.hid c0
  have HC1 := Lib.hid c1
  have HC2 := Lib.hid c2
  unfold cellsL at hst
  unfold cellsD at hdr
  have HST := hide hst
  have HDR := hide hdr
  have HRU := hide hru
  have HLK := Lib.hid hloks
  clear hst hdr hru hloks hu hq0 hq1 hq2 c0 c1 c2
  unfold cellsL cellsD at g0 g1 g2 hb0 ⊢
  go_enter Try.func11, Try.ntmps11
  go_wp2_with fail
  refine (awakeG_walk _).mono ?_
  rintro e w1 ⟨rfl, hb1⟩
  have hb2 := hb0.trans (hb1.mono hb0.size)
  have g01 := g0.below hb1 g0.lt
  have g11 := g1.below hb1 g1.lt
  have g21 := g2.below hb1 g2.lt
  clear hb0 g0 g1 g2 hb1
  obtain ⟨x0, x1, x2, x3, x4, x5⟩ := g01.c6
  go_wp2_with fail
  refine ((unhide HST) _).mono ?_
  rintro e w2 ⟨rfl, hb3⟩
  have hb4 := hb2.trans (hb3.mono hb2.size)
  have g02 := g01.below hb3 g01.lt
  have g12 := g11.below hb3 g11.lt
  have g22 := g21.below hb3 g21.lt
  clear hb2 hb3 g01 g11 g21 x0 x1 x2 x3 x4 x5
  obtain ⟨x0, x1, x2, x3, x4, x5⟩ := g02.c6
  obtain ⟨y0, y1, y2, y3, y4, y5, y6, y7, y8⟩ := g12.c9
  have fs0 := g02.frozen 0
  have fs1 := g02.frozen 1
  have fs2 := g02.frozen 2
  have fs3 := g02.frozen 3
  have fs4 := g02.frozen 4
  have fs5 := g02.frozen 5
  have g03 : Blk _ (w.heap.size) 48 #[.int .i64 ((z 0).s), .int .i64 ((z 0).j), .int .i64 ((z 1).s), .int .i64 ((z 1).j), .int .i64 ((z 2).s), .int .i64 ((z 2).j)] := ((((((g02.set_ 0 (.int .i64 ((z 0).s))).set_ 1 (.int .i64 ((z 0).j))).set_ 2 (.int .i64 ((z 1).s))).set_ 3 (.int .i64 ((z 1).j))).set_ 4 (.int .i64 ((z 2).s))).set_ 5 (.int .i64 ((z 2).j)))
  have g13 := ((((((g12.far (p := ⟨w.heap.size, 0, none⟩) (by simp <;> omega) (.int .i64 ((z 0).s))).far (p := ⟨w.heap.size, 1, none⟩) (by simp <;> omega) (.int .i64 ((z 0).j))).far (p := ⟨w.heap.size, 2, none⟩) (by simp <;> omega) (.int .i64 ((z 1).s))).far (p := ⟨w.heap.size, 3, none⟩) (by simp <;> omega) (.int .i64 ((z 1).j))).far (p := ⟨w.heap.size, 4, none⟩) (by simp <;> omega) (.int .i64 ((z 2).s))).far (p := ⟨w.heap.size, 5, none⟩) (by simp <;> omega) (.int .i64 ((z 2).j)))
  have g23 := ((((((g22.far (p := ⟨w.heap.size, 0, none⟩) (by simp <;> omega) (.int .i64 ((z 0).s))).far (p := ⟨w.heap.size, 1, none⟩) (by simp <;> omega) (.int .i64 ((z 0).j))).far (p := ⟨w.heap.size, 2, none⟩) (by simp <;> omega) (.int .i64 ((z 1).s))).far (p := ⟨w.heap.size, 3, none⟩) (by simp <;> omega) (.int .i64 ((z 1).j))).far (p := ⟨w.heap.size, 4, none⟩) (by simp <;> omega) (.int .i64 ((z 2).s))).far (p := ⟨w.heap.size, 5, none⟩) (by simp <;> omega) (.int .i64 ((z 2).j)))
  have hb5 := ((((((hb4.setCell (p := ⟨w.heap.size, 0, none⟩) (by simp <;> omega) (.int .i64 ((z 0).s))).setCell (p := ⟨w.heap.size, 1, none⟩) (by simp <;> omega) (.int .i64 ((z 0).j))).setCell (p := ⟨w.heap.size, 2, none⟩) (by simp <;> omega) (.int .i64 ((z 1).s))).setCell (p := ⟨w.heap.size, 3, none⟩) (by simp <;> omega) (.int .i64 ((z 1).j))).setCell (p := ⟨w.heap.size, 4, none⟩) (by simp <;> omega) (.int .i64 ((z 2).s))).setCell (p := ⟨w.heap.size, 5, none⟩) (by simp <;> omega) (.int .i64 ((z 2).j)))
  go_wp2_with fail
  refine ((unhide HDR) _).mono ?_
  rintro e w4 ⟨rfl, hb6⟩
  have g04 := g03.below hb6 g03.lt
  have g14 := g13.below hb6 g13.lt
  have g24 := g23.below hb6 g23.lt
  have hb7 := hb5.trans (hb6.mono hb5.size)
  clear hb4 hb5 hb6 g02 g12 g22 g03 g13 g23 x0 x1 x2 x3 x4 x5 y0 y1 y2 y3 y4 y5 y6 y7 y8 fs0 fs1 fs2 fs3 fs4 fs5
  obtain ⟨x0, x1, x2, x3, x4, x5⟩ := g04.c6
  obtain ⟨v0, v1, v2⟩ := g24.c3
  have lU := g24.lt
  obtain ⟨y0, y1, y2, y3, y4, y5, y6, y7, y8⟩ := g14.c9
  have fd0 := g14.frozen 0
  have fd1 := g14.frozen 1
  have fd2 := g14.frozen 2
  have fd3 := g14.frozen 3
  have fd4 := g14.frozen 4
  have fd5 := g14.frozen 5
  have fd6 := g14.frozen 6
  have fd7 := g14.frozen 7
  have fd8 := g14.frozen 8
  have gg0 : Blk _ (w.heap.size + 1) 53 #[.int .i64 (F 0), .int .i64 (o 0), .int .i64 (f 1), .int .i64 (o 1), .int .i64 (f 2), .int .i64 (o 2), .int .i64 p0, .int .i64 d0, .int .i64 t0] := g14.set_ 0 (.int .i64 (F 0))
  have gg1 : Blk _ (w.heap.size + 1) 53 #[.int .i64 (F 0), .int .i64 (O 0), .int .i64 (f 1), .int .i64 (o 1), .int .i64 (f 2), .int .i64 (o 2), .int .i64 p0, .int .i64 d0, .int .i64 t0] := gg0.set_ 1 (.int .i64 (O 0))
  have gg2 : Blk _ (w.heap.size + 1) 53 #[.int .i64 (F 0), .int .i64 (O 0), .int .i64 (F 1), .int .i64 (o 1), .int .i64 (f 2), .int .i64 (o 2), .int .i64 p0, .int .i64 d0, .int .i64 t0] := gg1.set_ 2 (.int .i64 (F 1))
  have gg3 : Blk _ (w.heap.size + 1) 53 #[.int .i64 (F 0), .int .i64 (O 0), .int .i64 (F 1), .int .i64 (O 1), .int .i64 (f 2), .int .i64 (o 2), .int .i64 p0, .int .i64 d0, .int .i64 t0] := gg2.set_ 3 (.int .i64 (O 1))
  have gg4 : Blk _ (w.heap.size + 1) 53 #[.int .i64 (F 0), .int .i64 (O 0), .int .i64 (F 1), .int .i64 (O 1), .int .i64 (F 2), .int .i64 (o 2), .int .i64 p0, .int .i64 d0, .int .i64 t0] := gg3.set_ 4 (.int .i64 (F 2))
  have gg5 : Blk _ (w.heap.size + 1) 53 #[.int .i64 (F 0), .int .i64 (O 0), .int .i64 (F 1), .int .i64 (O 1), .int .i64 (F 2), .int .i64 (O 2), .int .i64 p0, .int .i64 d0, .int .i64 t0] := gg4.set_ 5 (.int .i64 (O 2))
  have gg6 : Blk _ (w.heap.size + 1) 53 #[.int .i64 (F 0), .int .i64 (O 0), .int .i64 (F 1), .int .i64 (O 1), .int .i64 (F 2), .int .i64 (O 2), .int .i64 per, .int .i64 d0, .int .i64 t0] := gg5.set_ 6 (.int .i64 per)
  have gg7 : Blk _ (w.heap.size + 1) 53 #[.int .i64 (F 0), .int .i64 (O 0), .int .i64 (F 1), .int .i64 (O 1), .int .i64 (F 2), .int .i64 (O 2), .int .i64 per, .int .i64 dd, .int .i64 t0] := gg6.set_ 7 (.int .i64 dd)
  have gg8 : Blk _ (w.heap.size + 1) 53 #[.int .i64 (F 0), .int .i64 (O 0), .int .i64 (F 1), .int .i64 (O 1), .int .i64 (F 2), .int .i64 (O 2), .int .i64 per, .int .i64 dd, .int .i64 tt] := gg7.set_ 8 (.int .i64 tt)
  have g15 := gg8
  clear gg0 gg1 gg2 gg3 gg4 gg5 gg6 gg7 gg8
  have g05 := (((((((((g04.far (p := ⟨w.heap.size + 1, 0, none⟩) (by simp <;> omega) (.int .i64 (F 0))).far (p := ⟨w.heap.size + 1, 1, none⟩) (by simp <;> omega) (.int .i64 (O 0))).far (p := ⟨w.heap.size + 1, 2, none⟩) (by simp <;> omega) (.int .i64 (F 1))).far (p := ⟨w.heap.size + 1, 3, none⟩) (by simp <;> omega) (.int .i64 (O 1))).far (p := ⟨w.heap.size + 1, 4, none⟩) (by simp <;> omega) (.int .i64 (F 2))).far (p := ⟨w.heap.size + 1, 5, none⟩) (by simp <;> omega) (.int .i64 (O 2))).far (p := ⟨w.heap.size + 1, 6, none⟩) (by simp <;> omega) (.int .i64 per)).far (p := ⟨w.heap.size + 1, 7, none⟩) (by simp <;> omega) (.int .i64 dd)).far (p := ⟨w.heap.size + 1, 8, none⟩) (by simp <;> omega) (.int .i64 tt))
  have g25 := (((((((((g24.far (p := ⟨w.heap.size + 1, 0, none⟩) (by simp <;> omega) (.int .i64 (F 0))).far (p := ⟨w.heap.size + 1, 1, none⟩) (by simp <;> omega) (.int .i64 (O 0))).far (p := ⟨w.heap.size + 1, 2, none⟩) (by simp <;> omega) (.int .i64 (F 1))).far (p := ⟨w.heap.size + 1, 3, none⟩) (by simp <;> omega) (.int .i64 (O 1))).far (p := ⟨w.heap.size + 1, 4, none⟩) (by simp <;> omega) (.int .i64 (F 2))).far (p := ⟨w.heap.size + 1, 5, none⟩) (by simp <;> omega) (.int .i64 (O 2))).far (p := ⟨w.heap.size + 1, 6, none⟩) (by simp <;> omega) (.int .i64 per)).far (p := ⟨w.heap.size + 1, 7, none⟩) (by simp <;> omega) (.int .i64 dd)).far (p := ⟨w.heap.size + 1, 8, none⟩) (by simp <;> omega) (.int .i64 tt))
  have hb8 := (((((((((hb7.setCell (p := ⟨w.heap.size + 1, 0, none⟩) (by simp <;> omega) (.int .i64 (F 0))).setCell (p := ⟨w.heap.size + 1, 1, none⟩) (by simp <;> omega) (.int .i64 (O 0))).setCell (p := ⟨w.heap.size + 1, 2, none⟩) (by simp <;> omega) (.int .i64 (F 1))).setCell (p := ⟨w.heap.size + 1, 3, none⟩) (by simp <;> omega) (.int .i64 (O 1))).setCell (p := ⟨w.heap.size + 1, 4, none⟩) (by simp <;> omega) (.int .i64 (F 2))).setCell (p := ⟨w.heap.size + 1, 5, none⟩) (by simp <;> omega) (.int .i64 (O 2))).setCell (p := ⟨w.heap.size + 1, 6, none⟩) (by simp <;> omega) (.int .i64 per)).setCell (p := ⟨w.heap.size + 1, 7, none⟩) (by simp <;> omega) (.int .i64 dd)).setCell (p := ⟨w.heap.size + 1, 8, none⟩) (by simp <;> omega) (.int .i64 tt))
  clear hb7 g04 g14 g24
  go_wp2
  go_loopw [28] (fun i wr => ((i = .int .i64 0 ∧ Blk wr (w.heap.size + 1) 53 #[.int .i64 (F 0), .int .i64 (O 0), .int .i64 (F 1), .int .i64 (O 1), .int .i64 (F 2), .int .i64 (O 2), .int .i64 per, .int .i64 dd, .int .i64 tt]) ∨ (i = .int .i64 1 ∧ Blk wr (w.heap.size + 1) 53 #[.int .i64 0, .int .i64 q0, .int .i64 (F 1), .int .i64 (O 1), .int .i64 (F 2), .int .i64 (O 2), .int .i64 per, .int .i64 dd, .int .i64 tt]) ∨ (i = .int .i64 2 ∧ Blk wr (w.heap.size + 1) 53 #[.int .i64 0, .int .i64 q0, .int .i64 0, .int .i64 q1, .int .i64 (F 2), .int .i64 (O 2), .int .i64 per, .int .i64 dd, .int .i64 tt]) ∨ (i = .int .i64 3 ∧ Blk wr (w.heap.size + 1) 53 #[.int .i64 0, .int .i64 q0, .int .i64 0, .int .i64 q1, .int .i64 0, .int .i64 q2, .int .i64 per, .int .i64 dd, .int .i64 tt])) ∧ Blk wr (w.heap.size) 48 #[.int .i64 ((z 0).s), .int .i64 ((z 0).j), .int .i64 ((z 1).s), .int .i64 ((z 1).j), .int .i64 ((z 2).s), .int .i64 ((z 2).j)] ∧ Blk wr (w.heap.size + 1 + 1) 62 #[.bool u0, .bool u1, .bool u2] ∧ Below w.heap.size w wr) (fun i _ => 3 - (intOf i).toNat)
  case atStart => exact ⟨.inl ⟨rfl, g15⟩, g05, g25, hb8⟩
  case round =>
  clear g05 g15 g25 hb8 x0 x1 x2 x3 x4 x5 y0 y1 y2 y3 y4 y5 y6 y7 y8 fd0 fd1 fd2 fd3 fd4 fd5 fd6 fd7 fd8 v0 v1 v2 lU
  obtain ⟨hdj, g0, g2, hb⟩ := hrel
  have hbs := hb.size
  rcases hdj with ⟨rfl, g1⟩ | ⟨rfl, g1⟩ | ⟨rfl, g1⟩ | ⟨rfl, g1⟩
  · obtain ⟨y0, y1, y2, y3, y4, y5, y6, y7, y8⟩ := g1.c9
    have lD := g1.lt
    have fd0 := g1.frozen 0
    have fd1 := g1.frozen 1
    rcases HC0.out with ⟨rfl, hqe, _⟩ | ⟨rfl, hqe, _⟩
    · go_wp2
      go_roundw
      case rel =>
        refine ⟨(.inr (.inl ⟨rfl, ?_⟩)), ((g0.far (by simp <;> omega) _).far (by simp <;> omega) _).far (by simp <;> omega) _, ((g2.far (by simp <;> omega) _).far (by simp <;> omega) _).far (by simp <;> omega) _, ((hb.setCell (by simp <;> omega) _).setCell (by simp <;> omega) _).setCell (by simp <;> omega) _⟩
        rw [hqe]
        exact ((g1.set_ 0 (.int .i64 0)).set_ 1 (.int .i64 0)).set_ 1 (.int .i64 per)
      case measure => simp [intOf]
    · go_wp2
      go_roundw
      case rel =>
        refine ⟨(.inr (.inl ⟨rfl, ?_⟩)), (g0.far (by simp <;> omega) _).far (by simp <;> omega) _, (g2.far (by simp <;> omega) _).far (by simp <;> omega) _, (hb.setCell (by simp <;> omega) _).setCell (by simp <;> omega) _⟩
        rw [hqe]
        exact (g1.set_ 0 (.int .i64 0)).set_ 1 (.int .i64 0)
      case measure => simp [intOf]
  · obtain ⟨y0, y1, y2, y3, y4, y5, y6, y7, y8⟩ := g1.c9
    have lD := g1.lt
    have fd0 := g1.frozen 2
    have fd1 := g1.frozen 3
    rcases HC1.out with ⟨rfl, hqe, _⟩ | ⟨rfl, hqe, _⟩
    · go_wp2
      go_roundw
      case rel =>
        refine ⟨(.inr (.inr (.inl ⟨rfl, ?_⟩))), ((g0.far (by simp <;> omega) _).far (by simp <;> omega) _).far (by simp <;> omega) _, ((g2.far (by simp <;> omega) _).far (by simp <;> omega) _).far (by simp <;> omega) _, ((hb.setCell (by simp <;> omega) _).setCell (by simp <;> omega) _).setCell (by simp <;> omega) _⟩
        rw [hqe]
        exact ((g1.set_ 2 (.int .i64 0)).set_ 3 (.int .i64 0)).set_ 3 (.int .i64 per)
      case measure => simp [intOf]
    · go_wp2
      go_roundw
      case rel =>
        refine ⟨(.inr (.inr (.inl ⟨rfl, ?_⟩))), (g0.far (by simp <;> omega) _).far (by simp <;> omega) _, (g2.far (by simp <;> omega) _).far (by simp <;> omega) _, (hb.setCell (by simp <;> omega) _).setCell (by simp <;> omega) _⟩
        rw [hqe]
        exact (g1.set_ 2 (.int .i64 0)).set_ 3 (.int .i64 0)
      case measure => simp [intOf]
  · obtain ⟨y0, y1, y2, y3, y4, y5, y6, y7, y8⟩ := g1.c9
    have lD := g1.lt
    have fd0 := g1.frozen 4
    have fd1 := g1.frozen 5
    rcases HC2.out with ⟨rfl, hqe, _⟩ | ⟨rfl, hqe, _⟩
    · go_wp2
      go_roundw
      case rel =>
        refine ⟨(.inr (.inr (.inr ⟨rfl, ?_⟩))), ((g0.far (by simp <;> omega) _).far (by simp <;> omega) _).far (by simp <;> omega) _, ((g2.far (by simp <;> omega) _).far (by simp <;> omega) _).far (by simp <;> omega) _, ((hb.setCell (by simp <;> omega) _).setCell (by simp <;> omega) _).setCell (by simp <;> omega) _⟩
        rw [hqe]
        exact ((g1.set_ 4 (.int .i64 0)).set_ 5 (.int .i64 0)).set_ 5 (.int .i64 per)
      case measure => simp [intOf]
    · go_wp2
      go_roundw
      case rel =>
        refine ⟨(.inr (.inr (.inr ⟨rfl, ?_⟩))), (g0.far (by simp <;> omega) _).far (by simp <;> omega) _, (g2.far (by simp <;> omega) _).far (by simp <;> omega) _, (hb.setCell (by simp <;> omega) _).setCell (by simp <;> omega) _⟩
        rw [hqe]
        exact (g1.set_ 4 (.int .i64 0)).set_ 5 (.int .i64 0)
      case measure => simp [intOf]
  · go_wp2
    go_loopw [44] (fun i wr => ∃ (k : Nat) (z : Nat → Lg), k ≤ 2 ∧ i = .int .i64 k ∧ Hid ((∀ l, l < 3 → Lok (z l)) ∧ (k ≠ 0 → ∀ l, l < 3 → Dul dd (vv u l) (z l) ∧ 1024 < (z l).j)) ∧ Blk wr (w.heap.size) 48 #[.int .i64 ((z 0).s), .int .i64 ((z 0).j), .int .i64 ((z 1).s), .int .i64 ((z 1).j), .int .i64 ((z 2).s), .int .i64 ((z 2).j)] ∧ Blk wr (w.heap.size + 1) 53 #[.int .i64 0, .int .i64 q0, .int .i64 0, .int .i64 q1, .int .i64 0, .int .i64 q2, .int .i64 per, .int .i64 dd, .int .i64 tt] ∧ Blk wr (w.heap.size + 1 + 1) 62 #[.bool u0, .bool u1, .bool u2] ∧ Below w.heap.size w wr) (fun i _ => 2 - (intOf i).toNat)
    case atStart => exact ⟨0, z, by omega, rfl, ⟨HLK.out, fun h => absurd rfl h⟩, g0, g1, g2, hb⟩
    case round =>
    clear g0 g1 g2 hb hbs HLK
    obtain ⟨k, z, hk, rfl, HZ, g0, g1, g2, hb⟩ := hrel
    obtain ⟨x0, x1, x2, x3, x4, x5⟩ := g0.c6
    obtain ⟨y0, y1, y2, y3, y4, y5, y6, y7, y8⟩ := g1.c9
    have lU := g2.lt
    have lD := g1.lt
    have lS := g0.lt
    by_cases hk2 : k < 2
    · go_wp2_with fail
      refine ((unhide HRU) z HZ.out.1 _).mono ?_
      rintro e w5 ⟨A, n, c, y, rfl, hy, _, hb9⟩
      have hbA := hb.trans (hb9.mono hb.size)
      have g05 := g0.below hb9 g0.lt
      have g15 := g1.below hb9 g1.lt
      have g25 := g2.below hb9 g2.lt
      have HY := Lib.hid hy
      clear g0 g1 g2 hb hb9 hy lU lD lS x0 x1 x2 x3 x4 x5 y0 y1 y2 y3 y4 y5 y6 y7 y8
      have lS := g05.lt
      have lD := g15.lt
      have lU := g25.lt
      obtain ⟨x0, x1, x2, x3, x4, x5⟩ := g05.c6
      have fs0 := g05.frozen 0
      have fs1 := g05.frozen 1
      have fs2 := g05.frozen 2
      have fs3 := g05.frozen 3
      have fs4 := g05.frozen 4
      have fs5 := g05.frozen 5
      have m0 : Blk _ (w.heap.size) 48 #[.int .i64 ((y 0).s), .int .i64 ((y 0).j), .int .i64 ((y 1).s), .int .i64 ((y 1).j), .int .i64 ((y 2).s), .int .i64 ((y 2).j)] := ((((((g05.set_ 0 (.int .i64 ((y 0).s))).set_ 1 (.int .i64 ((y 0).j))).set_ 2 (.int .i64 ((y 1).s))).set_ 3 (.int .i64 ((y 1).j))).set_ 4 (.int .i64 ((y 2).s))).set_ 5 (.int .i64 ((y 2).j)))
      have m1 := ((((((g15.far (p := ⟨w.heap.size, 0, none⟩) (by simp <;> omega) (.int .i64 ((y 0).s))).far (p := ⟨w.heap.size, 1, none⟩) (by simp <;> omega) (.int .i64 ((y 0).j))).far (p := ⟨w.heap.size, 2, none⟩) (by simp <;> omega) (.int .i64 ((y 1).s))).far (p := ⟨w.heap.size, 3, none⟩) (by simp <;> omega) (.int .i64 ((y 1).j))).far (p := ⟨w.heap.size, 4, none⟩) (by simp <;> omega) (.int .i64 ((y 2).s))).far (p := ⟨w.heap.size, 5, none⟩) (by simp <;> omega) (.int .i64 ((y 2).j)))
      have m2 := ((((((g25.far (p := ⟨w.heap.size, 0, none⟩) (by simp <;> omega) (.int .i64 ((y 0).s))).far (p := ⟨w.heap.size, 1, none⟩) (by simp <;> omega) (.int .i64 ((y 0).j))).far (p := ⟨w.heap.size, 2, none⟩) (by simp <;> omega) (.int .i64 ((y 1).s))).far (p := ⟨w.heap.size, 3, none⟩) (by simp <;> omega) (.int .i64 ((y 1).j))).far (p := ⟨w.heap.size, 4, none⟩) (by simp <;> omega) (.int .i64 ((y 2).s))).far (p := ⟨w.heap.size, 5, none⟩) (by simp <;> omega) (.int .i64 ((y 2).j)))
      have mb := ((((((hbA.setCell (p := ⟨w.heap.size, 0, none⟩) (by simp <;> omega) (.int .i64 ((y 0).s))).setCell (p := ⟨w.heap.size, 1, none⟩) (by simp <;> omega) (.int .i64 ((y 0).j))).setCell (p := ⟨w.heap.size, 2, none⟩) (by simp <;> omega) (.int .i64 ((y 1).s))).setCell (p := ⟨w.heap.size, 3, none⟩) (by simp <;> omega) (.int .i64 ((y 1).j))).setCell (p := ⟨w.heap.size, 4, none⟩) (by simp <;> omega) (.int .i64 ((y 2).s))).setCell (p := ⟨w.heap.size, 5, none⟩) (by simp <;> omega) (.int .i64 ((y 2).j)))
      have k0 := (m0.alloc (.cells #[.int .i64 per, .bool ((z 0).s == 2), .bool ((z 0).s == 1), .bool ((z 1).s == 2), .bool ((z 1).s == 1), .bool ((z 2).s == 2), .bool ((z 2).s == 1), .slice A n c] 25)).alloc (.cells #[.int .i64 ((y 0).s), .int .i64 ((y 0).j), .int .i64 ((y 1).s), .int .i64 ((y 1).j), .int .i64 ((y 2).s), .int .i64 ((y 2).j)] 48)
      have k1 := (m1.alloc (.cells #[.int .i64 per, .bool ((z 0).s == 2), .bool ((z 0).s == 1), .bool ((z 1).s == 2), .bool ((z 1).s == 1), .bool ((z 2).s == 2), .bool ((z 2).s == 1), .slice A n c] 25)).alloc (.cells #[.int .i64 ((y 0).s), .int .i64 ((y 0).j), .int .i64 ((y 1).s), .int .i64 ((y 1).j), .int .i64 ((y 2).s), .int .i64 ((y 2).j)] 48)
      have k2 := (m2.alloc (.cells #[.int .i64 per, .bool ((z 0).s == 2), .bool ((z 0).s == 1), .bool ((z 1).s == 2), .bool ((z 1).s == 1), .bool ((z 2).s == 2), .bool ((z 2).s == 1), .slice A n c] 25)).alloc (.cells #[.int .i64 ((y 0).s), .int .i64 ((y 0).j), .int .i64 ((y 1).s), .int .i64 ((y 1).j), .int .i64 ((y 2).s), .int .i64 ((y 2).j)] 48)
      have kb := (mb.alloc mb.size (.cells #[.int .i64 per, .bool ((z 0).s == 2), .bool ((z 0).s == 1), .bool ((z 1).s == 2), .bool ((z 1).s == 1), .bool ((z 2).s == 2), .bool ((z 2).s == 1), .slice A n c] 25)).alloc (by have := hbA.size; simp <;> omega) (.cells #[.int .i64 ((y 0).s), .int .i64 ((y 0).j), .int .i64 ((y 1).s), .int .i64 ((y 1).j), .int .i64 ((y 2).s), .int .i64 ((y 2).j)] 48)
      go_wp2
      go_loopw [63] (fun i wr => ∃ (m : Nat) (z : Nat → Lg), m ≤ 16 ∧ i = .int .i64 m ∧ Hid (∀ l, l < 3 → Lok (z l) ∧ Dul dd (vv u l) (z l) ∧ 64 + 64 * (m : Int) ≤ (z l).j) ∧ Blk wr (w.heap.size) 48 #[.int .i64 ((z 0).s), .int .i64 ((z 0).j), .int .i64 ((z 1).s), .int .i64 ((z 1).j), .int .i64 ((z 2).s), .int .i64 ((z 2).j)] ∧ Blk wr (w.heap.size + 1) 53 #[.int .i64 0, .int .i64 q0, .int .i64 0, .int .i64 q1, .int .i64 0, .int .i64 q2, .int .i64 per, .int .i64 dd, .int .i64 tt] ∧ Blk wr (w.heap.size + 1 + 1) 62 #[.bool u0, .bool u1, .bool u2] ∧ Below w.heap.size w wr) (fun i _ => 16 - (intOf i).toNat)
      case atStart => exact ⟨0, y, by omega, rfl, (fun l hl => ⟨(HY.out l hl).1, (HY.out l hl).2.1, by have := (HY.out l hl).2.2.1; omega⟩), k0, k1, k2, kb⟩
      case round =>
      clear k0 k1 k2 kb m0 m1 m2 mb HY g05 g15 g25 hbA x0 x1 x2 x3 x4 x5 fs0 fs1 fs2 fs3 fs4 fs5 HZ lS lD lU
      obtain ⟨m, z, hm, rfl, HZ, g0, g1, g2, hb⟩ := hrel
      obtain ⟨x0, x1, x2, x3, x4, x5⟩ := g0.c6
      obtain ⟨y0, y1, y2, y3, y4, y5, y6, y7, y8⟩ := g1.c9
      have lU := g2.lt
      have lD := g1.lt
      have lS := g0.lt
      by_cases hm2 : m < 16
      · have hcs : (1024 < (z 0).j ∧ 1024 < (z 1).j ∧ 1024 < (z 2).j) ∨ ¬ 1024 < (z 0).j ∨ (1024 < (z 0).j ∧ ¬ 1024 < (z 1).j) ∨ (1024 < (z 0).j ∧ 1024 < (z 1).j ∧ ¬ 1024 < (z 2).j) := by omega
        rcases hcs with ⟨a0, a1, a2⟩ | a0 | ⟨a0, a1⟩ | ⟨a0, a1, a2⟩
        · go_wp2
          go_roundw
          case rel =>
            refine ⟨k + 1, z, by omega, by go_num, ⟨fun l hl => (HZ.out l hl).1, fun _ l hl => ⟨(HZ.out l hl).2.1, ?_⟩⟩, g0, g1, g2, hb⟩
            match l, hl with
            | 0, _ => exact a0
            | 1, _ => exact a1
            | 2, _ => exact a2
          case measure => simp [intOf]; omega
        all_goals
          go_wp2_with fail
          refine ((unhide HRU) z (fun l hl => (HZ.out l hl).1) _).mono ?_
          rintro e w6 ⟨A', n', c', y, rfl, hy, _, hb9⟩
          have hbA := hb.trans (hb9.mono hb.size)
          have g05 := g0.below hb9 g0.lt
          have g15 := g1.below hb9 g1.lt
          have g25 := g2.below hb9 g2.lt
          have HY := Lib.hid hy
          clear g0 g1 g2 hb hb9 hy lU lD lS x0 x1 x2 x3 x4 x5 y0 y1 y2 y3 y4 y5 y6 y7 y8
          have lS := g05.lt
          have lD := g15.lt
          have lU := g25.lt
          obtain ⟨x0, x1, x2, x3, x4, x5⟩ := g05.c6
          have fs0 := g05.frozen 0
          have fs1 := g05.frozen 1
          have fs2 := g05.frozen 2
          have fs3 := g05.frozen 3
          have fs4 := g05.frozen 4
          have fs5 := g05.frozen 5
          have k0 : Blk _ (w.heap.size) 48 #[.int .i64 ((y 0).s), .int .i64 ((y 0).j), .int .i64 ((y 1).s), .int .i64 ((y 1).j), .int .i64 ((y 2).s), .int .i64 ((y 2).j)] := ((((((g05.set_ 0 (.int .i64 ((y 0).s))).set_ 1 (.int .i64 ((y 0).j))).set_ 2 (.int .i64 ((y 1).s))).set_ 3 (.int .i64 ((y 1).j))).set_ 4 (.int .i64 ((y 2).s))).set_ 5 (.int .i64 ((y 2).j)))
          have k1 := ((((((g15.far (p := ⟨w.heap.size, 0, none⟩) (by simp <;> omega) (.int .i64 ((y 0).s))).far (p := ⟨w.heap.size, 1, none⟩) (by simp <;> omega) (.int .i64 ((y 0).j))).far (p := ⟨w.heap.size, 2, none⟩) (by simp <;> omega) (.int .i64 ((y 1).s))).far (p := ⟨w.heap.size, 3, none⟩) (by simp <;> omega) (.int .i64 ((y 1).j))).far (p := ⟨w.heap.size, 4, none⟩) (by simp <;> omega) (.int .i64 ((y 2).s))).far (p := ⟨w.heap.size, 5, none⟩) (by simp <;> omega) (.int .i64 ((y 2).j)))
          have k2 := ((((((g25.far (p := ⟨w.heap.size, 0, none⟩) (by simp <;> omega) (.int .i64 ((y 0).s))).far (p := ⟨w.heap.size, 1, none⟩) (by simp <;> omega) (.int .i64 ((y 0).j))).far (p := ⟨w.heap.size, 2, none⟩) (by simp <;> omega) (.int .i64 ((y 1).s))).far (p := ⟨w.heap.size, 3, none⟩) (by simp <;> omega) (.int .i64 ((y 1).j))).far (p := ⟨w.heap.size, 4, none⟩) (by simp <;> omega) (.int .i64 ((y 2).s))).far (p := ⟨w.heap.size, 5, none⟩) (by simp <;> omega) (.int .i64 ((y 2).j)))
          have kb := ((((((hbA.setCell (p := ⟨w.heap.size, 0, none⟩) (by simp <;> omega) (.int .i64 ((y 0).s))).setCell (p := ⟨w.heap.size, 1, none⟩) (by simp <;> omega) (.int .i64 ((y 0).j))).setCell (p := ⟨w.heap.size, 2, none⟩) (by simp <;> omega) (.int .i64 ((y 1).s))).setCell (p := ⟨w.heap.size, 3, none⟩) (by simp <;> omega) (.int .i64 ((y 1).j))).setCell (p := ⟨w.heap.size, 4, none⟩) (by simp <;> omega) (.int .i64 ((y 2).s))).setCell (p := ⟨w.heap.size, 5, none⟩) (by simp <;> omega) (.int .i64 ((y 2).j)))
          go_wp2
          go_roundw
          case rel =>
            refine ⟨m + 1, y, by omega, by go_num, (fun l hl => ⟨(HY.out l hl).1, (HY.out l hl).2.1, ?_⟩), k0, k1, k2, kb⟩
            have h1 := (HZ.out l hl).2.2
            have h2 := (HY.out l hl).2.2.2 (HZ.out l hl).2.1
            omega
          case measure => simp [intOf]; omega
      · obtain rfl : m = 16 := by omega
        go_wp2
        go_roundw
        case rel => exact ⟨k + 1, z, by omega, by go_num, ⟨fun l hl => (HZ.out l hl).1, fun _ l hl => ⟨(HZ.out l hl).2.1, by have := (HZ.out l hl).2.2; omega⟩⟩, g0, g1, g2, hb⟩
        case measure => simp [intOf]; omega
    · obtain rfl : k = 2 := by omega
      have hz2 := HZ.out.2 (by omega)
      go_wp2_with fail
      refine ((unhide HRU) z HZ.out.1 _).mono ?_
      rintro e w5 ⟨A, n, c, y, rfl, _, hy, hb9⟩
      obtain ⟨rfl, hyy⟩ := hy hz2
      have hbA := hb.trans (hb9.mono hb.size)
      have g25 := g2.below hb9 g2.lt
      have hs0 := hyy 0 (by omega)
      have hs1 := hyy 1 (by omega)
      have hs2 := hyy 2 (by omega)
      have HS0 := Lib.hid hs0
      have HS1 := Lib.hid hs1
      have HS2 := Lib.hid hs2
      clear g0 g1 g2 hb hb9 hy hyy lU lD lS x0 x1 x2 x3 x4 x5 y0 y1 y2 y3 y4 y5 y6 y7 y8 hz2 hs0 hs1 hs2 HZ
      have lU := g25.lt
      have lU1 : w.heap.size + 1 < w5.heap.size := by omega
      have lU0 : w.heap.size < w5.heap.size := by omega
      have lU2 : w.heap.size + 1 + 1 < w5.heap.size + 1 := by omega
      obtain ⟨v0, v1, v2⟩ := g25.c3
      have qY := Blk.new' (w := w5.alloc (.cells #[.int .i64 per, .bool ((z 0).s == 2), .bool ((z 0).s == 1), .bool ((z 1).s == 2), .bool ((z 1).s == 1), .bool ((z 2).s == 2), .bool ((z 2).s == 1), .slice A 0 c] 25)) (t := 48) (cs := #[.int .i64 ((y 0).s), .int .i64 ((y 0).j), .int .i64 ((y 1).s), .int .i64 ((y 1).j), .int .i64 ((y 2).s), .int .i64 ((y 2).j)]) (g := w5.heap.size + 1) (by simp)
      have qb := (hbA.alloc hbA.size (.cells #[.int .i64 per, .bool ((z 0).s == 2), .bool ((z 0).s == 1), .bool ((z 1).s == 2), .bool ((z 1).s == 1), .bool ((z 2).s == 2), .bool ((z 2).s == 1), .slice A 0 c] 25)).alloc (by have := hbA.size; simp <;> omega) (.cells #[.int .i64 ((y 0).s), .int .i64 ((y 0).j), .int .i64 ((y 1).s), .int .i64 ((y 1).j), .int .i64 ((y 2).s), .int .i64 ((y 2).j)] 48)
      have lB := hbA.size
      go_wp2
      go_loopw [122] (fun i wr => (i = .int .i64 0 ∨ i = .int .i64 1 ∨ i = .int .i64 2 ∨ i = .int .i64 3) ∧ Blk wr (w5.heap.size + 1) 48 #[.int .i64 ((y 0).s), .int .i64 ((y 0).j), .int .i64 ((y 1).s), .int .i64 ((y 1).j), .int .i64 ((y 2).s), .int .i64 ((y 2).j)] ∧ Below w.heap.size w wr) (fun i _ => 3 - (intOf i).toNat)
      case atStart => exact ⟨.inl rfl, qY, qb⟩
      case round =>
      clear qY qb hbA g25 v0 v1 v2
      obtain ⟨hdj, qY, hb⟩ := hrel
      obtain ⟨x0, x1, x2, x3, x4, x5⟩ := qY.c6
      have lY := qY.lt
      rcases hdj with rfl | rfl | rfl | rfl
      · rw [HS0.out] at x0
        rcases HC0.out with ⟨rfl, _, hv⟩ | ⟨rfl, _, hv⟩
        all_goals
          rw [hv] at x0
          clear hv
          go_wp2
          go_roundw
          case rel => exact ⟨.inr (.inl rfl), qY, hb⟩
          case measure => simp [intOf]
      · rw [HS1.out] at x2
        rcases HC1.out with ⟨rfl, _, hv⟩ | ⟨rfl, _, hv⟩
        all_goals
          rw [hv] at x2
          clear hv
          go_wp2
          go_roundw
          case rel => exact ⟨.inr (.inr (.inl rfl)), qY, hb⟩
          case measure => simp [intOf]
      · rw [HS2.out] at x4
        rcases HC2.out with ⟨rfl, _, hv⟩ | ⟨rfl, _, hv⟩
        all_goals
          rw [hv] at x4
          clear hv
          go_wp2
          go_roundw
          case rel => exact ⟨.inr (.inr (.inr rfl)), qY, hb⟩
          case measure => simp [intOf]
      · go_wp2
        go_ret
        exact ⟨rfl, hb⟩

end Go.Proofs.Ytgnojdiecgfeaaa
