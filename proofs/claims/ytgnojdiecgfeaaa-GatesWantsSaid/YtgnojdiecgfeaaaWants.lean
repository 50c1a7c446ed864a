/- The walk of the statement GatesWants. -/
import Derived.Test.YtgnojdiecgfeaaaPlainM
import Derived.Test.YtgnojdiecgfeaaaGTrips
namespace Go.Proofs.Ytgnojdiecgfeaaa
open Go.RowKit

/-- The two switches of a leg at a count: on only where the pattern asks for it. -/
def WA (trip : Int) (a b : Bool) (f o : Int) (k : Nat) : Prop := (a = false ∧ b = false) ∨ (a = true ∧ b = false ∧ (k : Int) < trip ∧ atB f o k = true) ∨ (a = false ∧ b = true ∧ (k : Int) < trip ∧ atB f o k = false)
theorem wa_at {r : Rq} (h : ∀ l, l < 3 → Lok (r.x l)) (m k : Nat) (hm : m < 3) : WA r.trip ((r.at_ m (k + 1)).s == 2) ((r.at_ m (k + 1)).s == 1) (r.f m) (r.o m) k := by
  have hw := wants (r := r) (m := m) (t := k)
  rcases (Rq.lok3 h m hm (k + 1)).s with hs | hs | hs
  · exact .inl ⟨by rw [hs]; rfl, by rw [hs]; rfl⟩
  · exact .inr (.inr ⟨by rw [hs]; rfl, by rw [hs]; rfl, hw.2 hs⟩)
  · exact .inr (.inl ⟨by rw [hs]; rfl, by rw [hs]; rfl, hw.1 hs⟩)
theorem wants_at {r : Rq} (h : ∀ l, l < 3 → Lok (r.x l)) (n k : Nat) (hk : k < n) : ∃ c0 c1 c2 c3 c4 c5 : Bool, onAt (onL r.x) (r.es n) (k : Int) = [c0, c1, c2, c3, c4, c5] ∧ WA r.trip c0 c1 (r.f 0) (r.o 0) k ∧ WA r.trip c2 c3 (r.f 1) (r.o 1) k ∧ WA r.trip c4 c5 (r.f 2) (r.o 2) k := by
  rw [onAt_es h hk]
  exact ⟨_, _, _, _, _, _, rfl, wa_at h 0 k (by omega), wa_at h 1 k (by omega), wa_at h 2 k (by omega)⟩
theorem idx62_0 (a b c : Value) (w : World) : (Instr.index 62 (.agg #[a, b, c]) (.int .i64 0)).run Try.prog w = .ok a w := by kernel_rfl
theorem idx62_1 (a b c : Value) (w : World) : (Instr.index 62 (.agg #[a, b, c]) (.int .i64 1)).run Try.prog w = .ok b w := by kernel_rfl
theorem idx62_2 (a b c : Value) (w : World) : (Instr.index 62 (.agg #[a, b, c]) (.int .i64 2)).run Try.prog w = .ok c w := by kernel_rfl

set_option maxRecDepth 100000 in
set_option maxHeartbeats 6400000 in
theorem gatesWants_walk (x : Nat → Lg) (f o : Nat → Int) (p0 d0 t0 : Int) (w : World) :
    Calls Try.prog 9 #[.agg (cellsL x), .agg (cellsD f o p0 d0 t0)] w fun e w' => e = .returned (.bool true) ∧ Below w.heap.size w w' := by
  have g0 := (Blk.new w 48 (cellsL x)).alloc (.cells (cellsD f o p0 d0 t0) 53)
  have g1 := Blk.new' (w := w.alloc (.cells (cellsL x) 48)) (t := 53) (cs := cellsD f o p0 d0 t0) (g := w.heap.size + 1) (by simp)
  have hb0 := ((Below.refl w.heap.size w).alloc (Nat.le_refl _) (.cells (cellsL x) 48)).alloc (by simp) (.cells (cellsD f o p0 d0 t0) 53)
  have hst := fun W => state_walk x W
  have hdr := fun W => drive_walk f o p0 d0 t0 p0 d0 W
  have hrg := st_rng x p0 d0
  have hpb := clipI_bds (n := p0) (lo := 64) (hi := 4096) (by omega)
  obtain ⟨per, hper⟩ : ∃ p, clipI p0 64 4096 = p := ⟨_, rfl⟩
  obtain ⟨dd, hdd⟩ : ∃ p, clipI d0 1 1024 = p := ⟨_, rfl⟩
  rw [hper] at hpb hrg
  rw [hdd] at hrg
  simp only [hper, hdd] at hdr
  obtain ⟨hp1, hp2⟩ := hpb
  have htb := clipI_bds (n := t0) (lo := 0) (hi := per) (by omega)
  obtain ⟨tt, htt⟩ : ∃ p, clipI t0 0 per = p := ⟨_, rfl⟩
  rw [htt] at htb
  simp only [htt] at hdr
  obtain ⟨ht0, ht1⟩ := htb
  have hdv := dv_ok f o (show 0 ≤ per by omega)
  have hloks : ∀ l, l < 3 → Lok (stL x l) := fun l _ => legOk_lok (stL_ok x l)
  obtain ⟨z, hz⟩ : ∃ z, stL x = z := ⟨_, rfl⟩
  obtain ⟨F, hF⟩ : ∃ F, dvF f per = F := ⟨_, rfl⟩
  obtain ⟨O, hO⟩ : ∃ O, dvO f o per = O := ⟨_, rfl⟩
  rw [hz] at hst hrg hloks
  rw [hF, hO] at hdr hdv
  clear hz hF hO hper hdd htt
  have hru := fun W => run_walk z F O per dd tt W hrg ht0 ht1 (hdv 0).1 (hdv 0).2.1 (hdv 0).2.2 (hdv 1).1 (hdv 1).2.1 (hdv 1).2.2 (hdv 2).1 (hdv 2).2.1 (hdv 2).2.2 ⟨per, dd, tt, F, O, z⟩ rfl
  have htr : ∀ e ∈ Rq.es ⟨per, dd, tt, F, O, z⟩ per.toNat, e.t ≤ tt ∧ (e.t = tt → e.o = false) := fun e he => es_trip (r := ⟨per, dd, tt, F, O, z⟩) he ht0
  have hval := es_valid (r := ⟨per, dd, tt, F, O, z⟩) (per := per)
  have hfold := fold_es (r := ⟨per, dd, tt, F, O, z⟩) hloks per.toNat
  have hend : tt ≠ per → ∀ l, (Rq.at_ ⟨per, dd, tt, F, O, z⟩ l per.toNat).s = 0 := fun hne l => by
    obtain ⟨q, hq⟩ : ∃ q, per.toNat = q + 1 := ⟨per.toNat - 1, by omega⟩
    rw [hq]
    exact at_zero (r := ⟨per, dd, tt, F, O, z⟩) (by show tt ≤ (q : Int); omega)
  have hlen := Rq.es_len ⟨per, dd, tt, F, O, z⟩ per.toNat
  have hwa := fun (k : Nat) (hk : (k : Int) < per) => wants_at (r := ⟨per, dd, tt, F, O, z⟩) hloks per.toNat k (by omega)
  obtain ⟨y, hy⟩ : ∃ y, (fun l => Rq.at_ ⟨per, dd, tt, F, O, z⟩ l per.toNat) = y := ⟨_, rfl⟩
  obtain ⟨es, hes⟩ : ∃ es, Rq.es ⟨per, dd, tt, F, O, z⟩ per.toNat = es := ⟨_, rfl⟩
  have hend' : tt ≠ per → ∀ l, (y l).s = 0 := fun hne l => by rw [← hy]; exact hend hne l
  simp only [hy, hes] at hru htr hval hfold
  simp only [hes] at hwa
  rw [hes] at hlen
  have hl2 : es.length ≤ 12288 := by omega
  have hon : onL z = [(z 0).s == 2, (z 0).s == 1, (z 1).s == 2, (z 1).s == 1, (z 2).s == 2, (z 2).s == 1] := rfl
  unfold cellsL at hst hru
  unfold cellsP at hru
  unfold cellsD at hdr
  have HST := hide hst
  have HDR := hide hdr
  have HRU := hide hru
  have HTR := Lib.hid htr
  have HVAL := Lib.hid hval
  have HWA := Lib.hid hwa
  have HFO := Lib.hid hfold
  have HEND := Lib.hid hend'
  clear hwa hst hdr hru htr hval hfold hend hend' hy hes hlen hrg hdv hloks hon
  unfold cellsL cellsD at g0 g1 hb0 ⊢
  go_enter Try.func9, Try.ntmps9
  go_wp2_with fail
  refine (awakeG_walk _).mono ?_
  rintro e w1 ⟨rfl, hb1⟩
  have hb2 := hb0.trans (hb1.mono hb0.size)
  have g01 := g0.below hb1 g0.lt
  have g11 := g1.below hb1 g1.lt
  clear hb0 g0 g1 hb1
  obtain ⟨x0, x1, x2, x3, x4, x5⟩ := g01.c6
  go_wp2_with fail
  refine ((unhide HST) _).mono ?_
  rintro e w2 ⟨rfl, hb3⟩
  have hb4 := hb2.trans (hb3.mono hb2.size)
  have g02 := g01.below hb3 g01.lt
  have g12 := g11.below hb3 g11.lt
  clear hb2 hb3 g01 g11 x0 x1 x2 x3 x4 x5
  obtain ⟨x0, x1, x2, x3, x4, x5⟩ := g02.c6
  obtain ⟨y0, y1, y2, y3, y4, y5, y6, y7, y8⟩ := g12.c9
  have fs0 := g02.frozen 0
  have fs1 := g02.frozen 1
  have fs2 := g02.frozen 2
  have fs3 := g02.frozen 3
  have fs4 := g02.frozen 4
  have fs5 := g02.frozen 5
  have g03 : Blk _ w.heap.size 48 #[.int .i64 (z 0).s, .int .i64 (z 0).j, .int .i64 (z 1).s, .int .i64 (z 1).j, .int .i64 (z 2).s, .int .i64 (z 2).j] := ((((((g02.set_ 0 (.int .i64 ((z 0).s))).set_ 1 (.int .i64 ((z 0).j))).set_ 2 (.int .i64 ((z 1).s))).set_ 3 (.int .i64 ((z 1).j))).set_ 4 (.int .i64 ((z 2).s))).set_ 5 (.int .i64 ((z 2).j)))
  have g13 := ((((((g12.far (p := ⟨w.heap.size, 0, none⟩) (by simp <;> omega) (.int .i64 ((z 0).s))).far (p := ⟨w.heap.size, 1, none⟩) (by simp <;> omega) (.int .i64 ((z 0).j))).far (p := ⟨w.heap.size, 2, none⟩) (by simp <;> omega) (.int .i64 ((z 1).s))).far (p := ⟨w.heap.size, 3, none⟩) (by simp <;> omega) (.int .i64 ((z 1).j))).far (p := ⟨w.heap.size, 4, none⟩) (by simp <;> omega) (.int .i64 ((z 2).s))).far (p := ⟨w.heap.size, 5, none⟩) (by simp <;> omega) (.int .i64 ((z 2).j)))
  have hb5 := ((((((hb4.setCell (p := ⟨w.heap.size, 0, none⟩) (by simp <;> omega) (.int .i64 ((z 0).s))).setCell (p := ⟨w.heap.size, 1, none⟩) (by simp <;> omega) (.int .i64 ((z 0).j))).setCell (p := ⟨w.heap.size, 2, none⟩) (by simp <;> omega) (.int .i64 ((z 1).s))).setCell (p := ⟨w.heap.size, 3, none⟩) (by simp <;> omega) (.int .i64 ((z 1).j))).setCell (p := ⟨w.heap.size, 4, none⟩) (by simp <;> omega) (.int .i64 ((z 2).s))).setCell (p := ⟨w.heap.size, 5, none⟩) (by simp <;> omega) (.int .i64 ((z 2).j)))
  go_wp2_with fail
  refine ((unhide HDR) _).mono ?_
  rintro e w4 ⟨rfl, hb6⟩
  have g04 := g03.below hb6 g03.lt
  have g14 := g13.below hb6 g13.lt
  have hb7 := hb5.trans (hb6.mono hb5.size)
  clear hb4 hb5 hb6 g02 g12 g03 g13 x0 x1 x2 x3 x4 x5 y0 y1 y2 y3 y4 y5 y6 y7 y8 fs0 fs1 fs2 fs3 fs4 fs5
  obtain ⟨x0, x1, x2, x3, x4, x5⟩ := g04.c6
  obtain ⟨y0, y1, y2, y3, y4, y5, y6, y7, y8⟩ := g14.c9
  have fd0 := g14.frozen 0
  have fd1 := g14.frozen 1
  have fd2 := g14.frozen 2
  have fd3 := g14.frozen 3
  have fd4 := g14.frozen 4
  have fd5 := g14.frozen 5
  have fd6 := g14.frozen 6
  have fd7 := g14.frozen 7
  have fd8 := g14.frozen 8
  have gg0 : Blk _ (w.heap.size + 1) 53 #[.int .i64 (F 0), .int .i64 (o 0), .int .i64 (f 1), .int .i64 (o 1), .int .i64 (f 2), .int .i64 (o 2), .int .i64 (p0), .int .i64 (d0), .int .i64 (t0)] := g14.set_ 0 (.int .i64 (F 0))
  have gg1 : Blk _ (w.heap.size + 1) 53 #[.int .i64 (F 0), .int .i64 (O 0), .int .i64 (f 1), .int .i64 (o 1), .int .i64 (f 2), .int .i64 (o 2), .int .i64 (p0), .int .i64 (d0), .int .i64 (t0)] := gg0.set_ 1 (.int .i64 (O 0))
  have gg2 : Blk _ (w.heap.size + 1) 53 #[.int .i64 (F 0), .int .i64 (O 0), .int .i64 (F 1), .int .i64 (o 1), .int .i64 (f 2), .int .i64 (o 2), .int .i64 (p0), .int .i64 (d0), .int .i64 (t0)] := gg1.set_ 2 (.int .i64 (F 1))
  have gg3 : Blk _ (w.heap.size + 1) 53 #[.int .i64 (F 0), .int .i64 (O 0), .int .i64 (F 1), .int .i64 (O 1), .int .i64 (f 2), .int .i64 (o 2), .int .i64 (p0), .int .i64 (d0), .int .i64 (t0)] := gg2.set_ 3 (.int .i64 (O 1))
  have gg4 : Blk _ (w.heap.size + 1) 53 #[.int .i64 (F 0), .int .i64 (O 0), .int .i64 (F 1), .int .i64 (O 1), .int .i64 (F 2), .int .i64 (o 2), .int .i64 (p0), .int .i64 (d0), .int .i64 (t0)] := gg3.set_ 4 (.int .i64 (F 2))
  have gg5 : Blk _ (w.heap.size + 1) 53 #[.int .i64 (F 0), .int .i64 (O 0), .int .i64 (F 1), .int .i64 (O 1), .int .i64 (F 2), .int .i64 (O 2), .int .i64 (p0), .int .i64 (d0), .int .i64 (t0)] := gg4.set_ 5 (.int .i64 (O 2))
  have gg6 : Blk _ (w.heap.size + 1) 53 #[.int .i64 (F 0), .int .i64 (O 0), .int .i64 (F 1), .int .i64 (O 1), .int .i64 (F 2), .int .i64 (O 2), .int .i64 (per), .int .i64 (d0), .int .i64 (t0)] := gg5.set_ 6 (.int .i64 (per))
  have gg7 : Blk _ (w.heap.size + 1) 53 #[.int .i64 (F 0), .int .i64 (O 0), .int .i64 (F 1), .int .i64 (O 1), .int .i64 (F 2), .int .i64 (O 2), .int .i64 (per), .int .i64 (dd), .int .i64 (t0)] := gg6.set_ 7 (.int .i64 (dd))
  have g15 : Blk _ (w.heap.size + 1) 53 #[.int .i64 (F 0), .int .i64 (O 0), .int .i64 (F 1), .int .i64 (O 1), .int .i64 (F 2), .int .i64 (O 2), .int .i64 (per), .int .i64 (dd), .int .i64 (tt)] := gg7.set_ 8 (.int .i64 (tt))
  clear gg0 gg1 gg2 gg3 gg4 gg5 gg6 gg7
  have g05 := (((((((((g04.far (p := ⟨w.heap.size + 1, 0, none⟩) (by simp <;> omega) (.int .i64 (F 0))).far (p := ⟨w.heap.size + 1, 1, none⟩) (by simp <;> omega) (.int .i64 (O 0))).far (p := ⟨w.heap.size + 1, 2, none⟩) (by simp <;> omega) (.int .i64 (F 1))).far (p := ⟨w.heap.size + 1, 3, none⟩) (by simp <;> omega) (.int .i64 (O 1))).far (p := ⟨w.heap.size + 1, 4, none⟩) (by simp <;> omega) (.int .i64 (F 2))).far (p := ⟨w.heap.size + 1, 5, none⟩) (by simp <;> omega) (.int .i64 (O 2))).far (p := ⟨w.heap.size + 1, 6, none⟩) (by simp <;> omega) (.int .i64 (per))).far (p := ⟨w.heap.size + 1, 7, none⟩) (by simp <;> omega) (.int .i64 (dd))).far (p := ⟨w.heap.size + 1, 8, none⟩) (by simp <;> omega) (.int .i64 (tt)))
  have hb8 := (((((((((hb7.setCell (p := ⟨w.heap.size + 1, 0, none⟩) (by simp <;> omega) (.int .i64 (F 0))).setCell (p := ⟨w.heap.size + 1, 1, none⟩) (by simp <;> omega) (.int .i64 (O 0))).setCell (p := ⟨w.heap.size + 1, 2, none⟩) (by simp <;> omega) (.int .i64 (F 1))).setCell (p := ⟨w.heap.size + 1, 3, none⟩) (by simp <;> omega) (.int .i64 (O 1))).setCell (p := ⟨w.heap.size + 1, 4, none⟩) (by simp <;> omega) (.int .i64 (F 2))).setCell (p := ⟨w.heap.size + 1, 5, none⟩) (by simp <;> omega) (.int .i64 (O 2))).setCell (p := ⟨w.heap.size + 1, 6, none⟩) (by simp <;> omega) (.int .i64 (per))).setCell (p := ⟨w.heap.size + 1, 7, none⟩) (by simp <;> omega) (.int .i64 (dd))).setCell (p := ⟨w.heap.size + 1, 8, none⟩) (by simp <;> omega) (.int .i64 (tt)))
  go_wp2_with fail
  refine ((unhide HRU) _).mono ?_
  rintro e w5 ⟨A, n, c, rfl, rfl, hsl, _, hb9⟩
  have hbA := hb8.trans (hb9.mono hb8.size)
  have g16 := g15.below hb9 g15.lt
  clear hb7 hb8 g04 g14 g05 g15 x0 x1 x2 x3 x4 x5 y0 y1 y2 y3 y4 y5 y6 y7 y8 fd0 fd1 fd2 fd3 fd4 fd5 fd6 fd7 fd8 hb9
  have lD : w.heap.size + 1 < w5.heap.size := g16.lt
  have lDa : w.heap.size < w5.heap.size := by omega
  have lDb : w.heap.size < w5.heap.size + 1 := by omega
  have lDc : w.heap.size + 1 < w5.heap.size + 1 := by omega
  have lDd : w.heap.size + 1 < w5.heap.size + 1 + 1 := by omega
  obtain ⟨u0, u1, u2, u3, u4, u5, u6, u7, u8⟩ := g16.c9
  go_wp2
  have q16 := ((g16.alloc (.cells #[.int .i64 per, .bool ((z 0).s == 2), .bool ((z 0).s == 1), .bool ((z 1).s == 2), .bool ((z 1).s == 1), .bool ((z 2).s == 2), .bool ((z 2).s == 1), .slice A es.length c] 25)).alloc (.cells #[.int .i64 (y 0).s, .int .i64 (y 0).j, .int .i64 (y 1).s, .int .i64 (y 1).j, .int .i64 (y 2).s, .int .i64 (y 2).j] 48)).alloc (.cells #[.bool ((z 0).s == 2), .bool ((z 0).s == 1), .bool ((z 1).s == 2), .bool ((z 1).s == 1), .bool ((z 2).s == 2), .bool ((z 2).s == 1)] 22)
  have qY := (Blk.new' (w := w5.alloc (.cells #[.int .i64 per, .bool ((z 0).s == 2), .bool ((z 0).s == 1), .bool ((z 1).s == 2), .bool ((z 1).s == 1), .bool ((z 2).s == 2), .bool ((z 2).s == 1), .slice A es.length c] 25)) (t := 48) (cs := #[.int .i64 (y 0).s, .int .i64 (y 0).j, .int .i64 (y 1).s, .int .i64 (y 1).j, .int .i64 (y 2).s, .int .i64 (y 2).j]) (g := w5.heap.size + 1) (by simp)).alloc (.cells #[.bool ((z 0).s == 2), .bool ((z 0).s == 1), .bool ((z 1).s == 2), .bool ((z 1).s == 1), .bool ((z 2).s == 2), .bool ((z 2).s == 1)] 22)
  have qO := Blk.new' (w := (w5.alloc (.cells #[.int .i64 per, .bool ((z 0).s == 2), .bool ((z 0).s == 1), .bool ((z 1).s == 2), .bool ((z 1).s == 1), .bool ((z 2).s == 2), .bool ((z 2).s == 1), .slice A es.length c] 25)).alloc (.cells #[.int .i64 (y 0).s, .int .i64 (y 0).j, .int .i64 (y 1).s, .int .i64 (y 1).j, .int .i64 (y 2).s, .int .i64 (y 2).j] 48)) (t := 22) (cs := #[.bool ((z 0).s == 2), .bool ((z 0).s == 1), .bool ((z 1).s == 2), .bool ((z 1).s == 1), .bool ((z 2).s == 2), .bool ((z 2).s == 1)]) (g := w5.heap.size + 1 + 1) (by simp)
  have qS := ((hsl.alloc (Nat.le_refl _) (.cells #[.int .i64 per, .bool ((z 0).s == 2), .bool ((z 0).s == 1), .bool ((z 1).s == 2), .bool ((z 1).s == 1), .bool ((z 2).s == 2), .bool ((z 2).s == 1), .slice A es.length c] 25)).alloc (by simp) (.cells #[.int .i64 (y 0).s, .int .i64 (y 0).j, .int .i64 (y 1).s, .int .i64 (y 1).j, .int .i64 (y 2).s, .int .i64 (y 2).j] 48)).alloc (by simp <;> omega) (.cells #[.bool ((z 0).s == 2), .bool ((z 0).s == 1), .bool ((z 1).s == 2), .bool ((z 1).s == 1), .bool ((z 2).s == 2), .bool ((z 2).s == 1)] 22)
  have qB := ((hbA.alloc hbA.size (.cells #[.int .i64 per, .bool ((z 0).s == 2), .bool ((z 0).s == 1), .bool ((z 1).s == 2), .bool ((z 1).s == 1), .bool ((z 2).s == 2), .bool ((z 2).s == 1), .slice A es.length c] 25)).alloc (by have := hbA.size; simp <;> omega) (.cells #[.int .i64 (y 0).s, .int .i64 (y 0).j, .int .i64 (y 1).s, .int .i64 (y 1).j, .int .i64 (y 2).s, .int .i64 (y 2).j] 48)).alloc (by have := hbA.size; simp <;> omega) (.cells #[.bool ((z 0).s == 2), .bool ((z 0).s == 1), .bool ((z 1).s == 2), .bool ((z 1).s == 1), .bool ((z 2).s == 2), .bool ((z 2).s == 1)] 22)
  have lB := hbA.size
  have qG := ((Blk.new w5 25 #[.int .i64 per, .bool ((z 0).s == 2), .bool ((z 0).s == 1), .bool ((z 1).s == 2), .bool ((z 1).s == 1), .bool ((z 2).s == 2), .bool ((z 2).s == 1), .slice A es.length c]).alloc (.cells #[.int .i64 ((y 0).s), .int .i64 ((y 0).j), .int .i64 ((y 1).s), .int .i64 ((y 1).j), .int .i64 ((y 2).s), .int .i64 ((y 2).j)] 48)).alloc (.cells #[.bool ((z 0).s == 2), .bool ((z 0).s == 1), .bool ((z 1).s == 2), .bool ((z 1).s == 1), .bool ((z 2).s == 2), .bool ((z 2).s == 1)] 22)
  clear g16 hsl hbA qY u0 u1 u2 u3 u4 u5 u6 u7 u8
  go_loopw [9, 44] (fun x i wr => ∃ (k j : Nat), (k : Int) ≤ per ∧ j ≤ es.length ∧ i = .int .i64 k ∧ x = .int .i64 j ∧ Hid (∀ i e, i < j → es[i]? = some e → e.t < (k : Int)) ∧ Hid (∀ i e, j ≤ i → es[i]? = some e → (k : Int) ≤ e.t) ∧ Blk wr (w5.heap.size + 1 + 1) 22 (cellsS ((es.take j).foldl step (onL z))) ∧ Blk wr (w.heap.size + 1) 53 #[.int .i64 (F 0), .int .i64 (O 0), .int .i64 (F 1), .int .i64 (O 1), .int .i64 (F 2), .int .i64 (O 2), .int .i64 per, .int .i64 dd, .int .i64 tt] ∧ Blk wr (w5.heap.size) 25 #[.int .i64 per, .bool ((z 0).s == 2), .bool ((z 0).s == 1), .bool ((z 1).s == 2), .bool ((z 1).s == 1), .bool ((z 2).s == 2), .bool ((z 2).s == 1), .slice A es.length c] ∧ Sl wr w5.heap.size 3 A (es.map Ed.row) ∧ Below w.heap.size w wr) (fun _ i _ => (per - intOf i).toNat)
  case atStart =>
    refine ⟨0, 0, by omega, Nat.zero_le _, rfl, rfl, (fun i e h => by omega), (fun i e _ he => ?_), qO, q16, qG, qS, qB⟩
    obtain ⟨h1, rfl⟩ := List.getElem?_eq_some_iff.1 he
    exact (HVAL.out.ins i h1).1
  case round =>
  clear q16 qG qO qS qB
  obtain ⟨k, j, hk, hj, rfl, rfl, hearly, hlate, qO, q16, qG, qS, qB⟩ := hrel
  obtain ⟨u0, u1, u2, u3, u4, u5, u6, u7, u8⟩ := q16.c9
  have lO := qO.lt
  have lD2 := q16.lt
  have lG := qG.lt
  by_cases hlt : (k : Int) < per
  · go_wp2
    go_loopw [9] (fun x wr => ∃ (j : Nat), j ≤ es.length ∧ x = .int .i64 j ∧ Hid (∀ i e, i < j → es[i]? = some e → e.t ≤ (k : Int)) ∧ Hid (∀ i e, j ≤ i → es[i]? = some e → (k : Int) ≤ e.t) ∧ Blk wr (w5.heap.size + 1 + 1) 22 (cellsS ((es.take j).foldl step (onL z))) ∧ Blk wr (w.heap.size + 1) 53 #[.int .i64 (F 0), .int .i64 (O 0), .int .i64 (F 1), .int .i64 (O 1), .int .i64 (F 2), .int .i64 (O 2), .int .i64 per, .int .i64 dd, .int .i64 tt] ∧ Blk wr (w5.heap.size) 25 #[.int .i64 per, .bool ((z 0).s == 2), .bool ((z 0).s == 1), .bool ((z 1).s == 2), .bool ((z 1).s == 1), .bool ((z 2).s == 2), .bool ((z 2).s == 1), .slice A es.length c] ∧ Sl wr w5.heap.size 3 A (es.map Ed.row) ∧ Below w.heap.size w wr) (fun x _ => es.length - (intOf x).toNat)
    case atStart => exact ⟨j, hj, rfl, (fun i e h1 h2 => by have := hearly.out i e h1 h2; omega), hlate, qO, q16, qG, qS, qB⟩
    case round =>
      clear hearly hlate qO q16 qG qS qB lO lD2 lG
      obtain ⟨j, hj, rfl, hearly, hlate, qO, q16, qG, qS, qB⟩ := hrel
      obtain ⟨v0, v1, v2, v3, v4, v5, v6, v7⟩ := qG.c8
      have lO := qO.lt
      have lD2 := q16.lt
      have lG := qG.lt
      by_cases hgo : ∃ e, es[j]? = some e ∧ e.t = (k : Int)
      · obtain ⟨e, he, hek⟩ := hgo
        have hjl := (List.getElem?_eq_some_iff.1 he).1
        obtain ⟨ad, p, rfl, hpa, hpb, e0, e1, e2⟩ := qS.three (k := j) (x := .int .i64 (k : Int)) (y := .int .i64 e.s) (z := .bool e.o) (by rw [List.getElem?_map, he, ← hek]; rfl)
        have hpb1 : p.block < wr.heap.size := by omega
        obtain ⟨hs0, hs5⟩ : 0 ≤ e.s ∧ e.s ≤ 5 := by
          have := HVAL.out.ins j hjl
          rw [(List.getElem?_eq_some_iff.1 he).2] at this
          exact this.2.2
        obtain ⟨ob, hob⟩ := cellsS_get (l := (es.take j).foldl step (onL z)) (by rw [fold_length, onL_length]) (i := e.s.toNat) (by omega)
        have hc := (qO.cell e.s.toNat).trans hob
        have hfo := qO.frozen e.s.toNat
        have hst : Hid (cellsS ((es.take (j + 1)).foldl step (onL z)) = (cellsS ((es.take j).foldl step (onL z))).setIfInBounds e.s.toNat (.bool e.o)) := by
          show _ = _
          rw [cellsS_step, (List.getElem?_eq_some_iff.1 he).2.symm, List.take_succ_eq_append_getElem hjl, List.foldl_append]
          rfl
        have HE := Lib.hid he
        have HEK := Lib.hid hek
        have hs6 : e.s < 6 := by omega
        clear he hek hob
        go_wp2
        go_region
        all_goals go_wp2
        all_goals go_roundw
        case rel =>
          refine ⟨j + 1, by omega, by go_num, ?_, ?_, ?_, q16.far (by simp <;> omega) _, qG.far (by simp <;> omega) _, ?_, (qB.setCell (by simp <;> omega) _).drew⟩
          · intro i x' h1 h2
            by_cases hij : i = j
            · subst hij
              rw [HE.out] at h2
              injection h2 with h2
              subst h2
              exact Int.le_of_eq HEK.out
            · exact hearly.out i x' (by omega) h2
          · exact fun i x' h1 h2 => hlate.out i x' (by omega) h2
          · rw [hst.out]; exact (qO.set_ _ _).drew
          · exact (qS.below ((Below.refl w5.heap.size wr).setCell (by simp <;> omega) _).drew)
        case measure => simp [intOf]; omega
      · obtain ⟨HR, hlate2⟩ := adv_done HVAL.out rfl (fun i e hi he => hearly.out i e hi he) (fun i e hi he => hlate.out i e hi he) hgo
        have hcase : (∃ e ad p, j < es.length ∧ (Ed.t e == (k : Int)) = false ∧ A = some ad ∧ ad.add (j * 3) = p ∧ wr.cell? p = some (.int .i64 (Ed.t e))) ∨ j = es.length := by
          by_cases hjn : j < es.length
          · obtain ⟨ad, p, hA, hpa, hpb, e0, e1, e2⟩ := qS.three (k := j) (x := .int .i64 (es[j]).t) (y := .int .i64 (es[j]).s) (z := .bool (es[j]).o) (by rw [List.getElem?_map, List.getElem?_eq_getElem hjn]; rfl)
            refine .inl ⟨es[j], ad, p, hjn, ?_, hA, hpa, e0⟩
            rw [beq_eq_false_iff_ne]
            exact fun h => hgo ⟨_, List.getElem?_eq_getElem hjn, h⟩
          · exact .inr (by omega)
        obtain ⟨c0, c1, c2, c3, c4, c5, hon, hw0, hw1, hw2⟩ := HWA.out k hlt
        have HON := Lib.hid (HR.symm.trans hon)
        have HLL := Lib.hid hlate2
        rw [HON.out] at qO
        have hea : Hid (∀ i e, i < j → es[i]? = some e → e.t < ((k + 1 : Nat) : Int)) := fun i e h1 h2 => by have := hearly.out i e h1 h2; omega
        clear hgo HR hlate2 hon hearly hlate v0 v1 v2 v3 v4 v5 v6 v7
        obtain ⟨v0, v1, v2, v3, v4, v5, v6, v7⟩ := qG.c8
        obtain ⟨u0, u1, u2, u3, u4, u5, u6, u7, u8⟩ := q16.c9
        have H0 := Lib.hid hw0
        have H1 := Lib.hid hw1
        have H2 := Lib.hid hw2
        have hat := fun W => at23_walk F O k W
        unfold cellsP at hat
        obtain ⟨t0', ht0'⟩ : ∃ x, atB (F 0) (O 0) k = x := ⟨_, rfl⟩
        obtain ⟨t1', ht1'⟩ : ∃ x, atB (F 1) (O 1) k = x := ⟨_, rfl⟩
        obtain ⟨t2', ht2'⟩ : ∃ x, atB (F 2) (O 2) k = x := ⟨_, rfl⟩
        rw [ht0', ht1', ht2'] at hat
        have K0 : Hid ((c0 = false ∧ c1 = false) ∨ (c0 = true ∧ c1 = false ∧ (k : Int) < tt ∧ t0' = true) ∨ (c0 = false ∧ c1 = true ∧ (k : Int) < tt ∧ t0' = false)) := by rw [← ht0']; exact hw0
        have K1 : Hid ((c2 = false ∧ c3 = false) ∨ (c2 = true ∧ c3 = false ∧ (k : Int) < tt ∧ t1' = true) ∨ (c2 = false ∧ c3 = true ∧ (k : Int) < tt ∧ t1' = false)) := by rw [← ht1']; exact hw1
        have K2 : Hid ((c4 = false ∧ c5 = false) ∨ (c4 = true ∧ c5 = false ∧ (k : Int) < tt ∧ t2' = true) ∨ (c4 = false ∧ c5 = true ∧ (k : Int) < tt ∧ t2' = false)) := by rw [← ht2']; exact hw2
        have HAT := hide hat
        clear hat ht0' ht1' ht2' hw0 hw1 hw2 H0 H1 H2
        rcases hcase with ⟨e, ad, p, hjn, hek, rfl, hpa, e0⟩ | rfl
        all_goals
          go_wp2_with fail
          refine ((unhide HAT) _).mono ?_
          rintro e' w7 ⟨rfl, hb7⟩
          have r16 := q16.below hb7 q16.lt
          have rO := qO.below hb7 qO.lt
          have rG := qG.below hb7 qG.lt
          have rS := qS.below (hb7.mono (Nat.le_of_lt qG.lt))
          have rB := qB.trans (hb7.mono qB.size)
          have i0 := idx62_0 (.bool t0') (.bool t1') (.bool t2')
          have i1 := idx62_1 (.bool t0') (.bool t1') (.bool t2')
          have i2 := idx62_2 (.bool t0') (.bool t1') (.bool t2')
          clear q16 qO qG qS qB hb7 HAT u0 u1 u2 u3 u4 u5 u6 u7 u8 v0 v1 v2 v3 v4 v5 v6 v7
          obtain ⟨u0, u1, u2, u3, u4, u5, u6, u7, u8⟩ := r16.c9
          obtain ⟨z0, z1, z2, z3, z4, z5⟩ := (show Blk w7 (w5.heap.size + 1 + 1) 22 #[.bool c0, .bool c1, .bool c2, .bool c3, .bool c4, .bool c5] from rO).c6
          go_wp2
          go_loopw [93] (fun i wr => (i = .int .i64 0 ∨ i = .int .i64 1 ∨ i = .int .i64 2 ∨ i = .int .i64 3) ∧ wr = w7) (fun i _ => 3 - (intOf i).toNat)
          case atStart => exact ⟨.inl rfl, rfl⟩
          case round =>
          obtain ⟨hdj, rfl⟩ := hrel
          rcases hdj with rfl | rfl | rfl | rfl
          · rcases K0.out with ⟨rfl, rfl⟩ | ⟨rfl, rfl, hkt, rfl⟩ | ⟨rfl, rfl, hkt, rfl⟩
            all_goals
              go_wp2
              go_roundw
              case rel => exact ⟨.inr (.inl rfl), (by trivial)⟩
              case measure => simp [intOf]
          · rcases K1.out with ⟨rfl, rfl⟩ | ⟨rfl, rfl, hkt, rfl⟩ | ⟨rfl, rfl, hkt, rfl⟩
            all_goals
              go_wp2
              go_roundw
              case rel => exact ⟨.inr (.inr (.inl rfl)), (by trivial)⟩
              case measure => simp [intOf]
          · rcases K2.out with ⟨rfl, rfl⟩ | ⟨rfl, rfl, hkt, rfl⟩ | ⟨rfl, rfl, hkt, rfl⟩
            all_goals
              go_wp2
              go_roundw
              case rel => exact ⟨.inr (.inr (.inr rfl)), (by trivial)⟩
              case measure => simp [intOf]
          · go_wp2
            go_roundw
            case rel =>
              refine ⟨k + 1, _, by omega, ?_, by go_num, rfl, hea, HLL, ?_, r16, rG, rS, rB⟩
              · first | omega | exact Nat.le_refl _
              · rw [HON.out]; exact rO
            case measure => simp [intOf]; omega
  · have hje : j = es.length := by
      by_cases hjl : j < es.length
      · have h1 := hlate.out j _ (Nat.le_refl _) (List.getElem?_eq_getElem hjl)
        have h2 := HVAL.out.ins j hjl
        omega
      · omega
    subst hje
    obtain ⟨v0, v1, v2, v3, v4, v5, v6, v7⟩ := qG.c8
    go_wp2
    go_ret
    exact ⟨rfl, qB⟩

end Go.Proofs.Ytgnojdiecgfeaaa
