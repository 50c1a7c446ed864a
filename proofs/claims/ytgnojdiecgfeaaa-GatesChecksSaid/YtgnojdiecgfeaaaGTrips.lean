/- The walk of the statement GatesTrips. -/
import Derived.Test.YtgnojdiecgfeaaaPlainI
import Derived.Test.YtgnojdiecgfeaaaDrive
import Derived.Test.YtgnojdiecgfeaaaAwakeG
namespace Go.Proofs.Ytgnojdiecgfeaaa
open Go.RowKit

theorem legS_zero (dead : Int) (x : Lg) : (legS dead x 0).s = 0 := by
  unfold legS
  split
  · rfl
  · rename_i h
    split
    · rename_i h2; exact absurd rfl h2.2.1
    · unfold isOff at h
      show x.s = 0
      omega
theorem at_zero {r : Rq} {m t : Nat} (h : r.trip ≤ t) : (r.at_ m (t + 1)).s = 0 := by
  rw [Rq.at_succ, show r.want m t = 0 from if_pos h]
  exact legS_zero _ _
theorem es_trip {r : Rq} {n : Nat} {e : Ed} (he : e ∈ r.es n) (h0 : 0 ≤ r.trip) : e.t ≤ r.trip ∧ (e.t = r.trip → e.o = false) := by
  obtain ⟨t, m, h1, h2, h3⟩ := es_mem he
  have q := legE_mem h3
  have hle : e.t ≤ r.trip := by
    rw [q.1]
    rcases Int.lt_or_le r.trip t with h | h
    · exfalso
      obtain ⟨t', rfl⟩ : ∃ t', t = t' + 1 := ⟨t - 1, by omega⟩
      have hz := at_zero (r := r) (m := m) (t := t') (by omega)
      have hw : r.want m (t' + 1) = 0 := if_pos (by omega)
      unfold Rq.e at h3
      rw [hw] at h3
      unfold legE at h3
      rw [if_neg (fun h => h.1 hz), if_neg (fun h => h.2.1 rfl)] at h3
      simp at h3
    · exact h
  refine ⟨hle, fun heq => ?_⟩
  cases ho : e.o with
  | false => rfl
  | true =>
    have := q.2.2 ho
    exact absurd (if_pos (by omega) : r.want m t = 0) this
theorem stL_ok (x : Nat → Lg) (l : Nat) : legOk (stL x l) = true := by
  have h1 := clipI_bds (n := (x l).s) (lo := 0) (hi := 2) (by omega)
  have h2 := clipI_bds (n := (x l).j) (lo := 0) (hi := 4096) (by omega)
  simp only [legOk, stL, Bool.and_eq_true]
  exact ⟨⟨⟨decide_eq_true h1.1, decide_eq_true h1.2⟩, decide_eq_true h2.1⟩, decide_eq_true h2.2⟩
theorem st_rng (x : Nat → Lg) (p d : Int) : rngOk (stL x 0) (stL x 1) (stL x 2) (clipI p 64 4096) (clipI d 1 1024) = true := by
  have h1 := clipI_bds (n := p) (lo := 64) (hi := 4096) (by omega)
  have h2 := clipI_bds (n := d) (lo := 1) (hi := 1024) (by omega)
  simp only [rngOk, stL_ok, perOk, deadOk, Bool.and_eq_true, decide_eq_true_eq]
  exact ⟨⟨⟨⟨trivial, trivial⟩, trivial⟩, h1⟩, h2⟩
theorem dv_ok (f o : Nat → Int) {per : Int} (h : 0 ≤ per) (l : Nat) : 0 ≤ dvF f per l ∧ dvF f per l ≤ dvO f o per l ∧ dvO f o per l ≤ per := by
  have h1 := clipI_bds (n := f l) (lo := 0) (hi := per) h
  have h2 := clipI_bds (n := o l) (lo := dvF f per l) (hi := per) h1.2
  exact ⟨h1.1, h2.1, h2.2⟩
/-- The cells of a list of switches. -/
def cellsS (l : List Bool) : Array Value := (l.map Value.bool).toArray
theorem cellsS_step (l : List Bool) (e : Ed) : (cellsS l).setIfInBounds e.s.toNat (.bool e.o) = cellsS (step l e) := by
  unfold cellsS step
  rw [List.map_set]
  simp
theorem cellsS_get {l : List Bool} (hl : l.length = 6) {i : Nat} (hi : i < 6) : ∃ b, (cellsS l)[i]? = some (.bool b) := by
  refine ⟨l[i], ?_⟩
  simp [cellsS, List.getElem?_eq_getElem (show i < l.length by omega)]
theorem trip_eq6 (w : World) : (binOp .eql 22 (.agg #[.bool false, .bool false, .bool false, .bool false, .bool false, .bool false]) (.agg #[.bool false, .bool false, .bool false, .bool false, .bool false, .bool false])).run Try.prog w = .ok (.bool true) w := by kernel_rfl

set_option maxRecDepth 100000 in
set_option maxHeartbeats 6400000 in
theorem gatesTrips_walk (x : Nat → Lg) (f o : Nat → Int) (p0 d0 t0 : Int) (w : World) :
    Calls Try.prog 8 #[.agg (cellsL x), .agg (cellsD f o p0 d0 t0)] w fun e w' => e = .returned (.bool true) ∧ Below w.heap.size w w' := by
  have g0 := (Blk.new w 48 (cellsL x)).alloc (.cells (cellsD f o p0 d0 t0) 53)
  have g1 := Blk.new' (w := w.alloc (.cells (cellsL x) 48)) (t := 53) (cs := cellsD f o p0 d0 t0) (g := w.heap.size + 1) (by simp)
  have hb0 := ((Below.refl w.heap.size w).alloc (Nat.le_refl _) (.cells (cellsL x) 48)).alloc (by simp) (.cells (cellsD f o p0 d0 t0) 53)
  have hst := fun W => state_walk x W
  have hdr := fun W => drive_walk f o p0 d0 t0 p0 d0 W
  have hrg := st_rng x p0 d0
  have hpb := clipI_bds (n := p0) (lo := 64) (hi := 4096) (by omega)
  obtain ⟨per, hper⟩ : ∃ p, clipI p0 64 4096 = p := ⟨_, rfl⟩
  obtain ⟨dd, hdd⟩ : ∃ p, clipI d0 1 1024 = p := ⟨_, rfl⟩
  rw [hper] at hpb hrg
  rw [hdd] at hrg
  simp only [hper, hdd] at hdr
  obtain ⟨hp1, hp2⟩ := hpb
  have htb := clipI_bds (n := t0) (lo := 0) (hi := per) (by omega)
  obtain ⟨tt, htt⟩ : ∃ p, clipI t0 0 per = p := ⟨_, rfl⟩
  rw [htt] at htb
  simp only [htt] at hdr
  obtain ⟨ht0, ht1⟩ := htb
  have hdv := dv_ok f o (show 0 ≤ per by omega)
  have hloks : ∀ l, l < 3 → Lok (stL x l) := fun l _ => legOk_lok (stL_ok x l)
  obtain ⟨z, hz⟩ : ∃ z, stL x = z := ⟨_, rfl⟩
  obtain ⟨F, hF⟩ : ∃ F, dvF f per = F := ⟨_, rfl⟩
  obtain ⟨O, hO⟩ : ∃ O, dvO f o per = O := ⟨_, rfl⟩
  rw [hz] at hst hrg hloks
  rw [hF, hO] at hdr hdv
  clear hz hF hO hper hdd htt
  have hru := fun W => run_walk z F O per dd tt W hrg ht0 ht1 (hdv 0).1 (hdv 0).2.1 (hdv 0).2.2 (hdv 1).1 (hdv 1).2.1 (hdv 1).2.2 (hdv 2).1 (hdv 2).2.1 (hdv 2).2.2 ⟨per, dd, tt, F, O, z⟩ rfl
  have htr : ∀ e ∈ Rq.es ⟨per, dd, tt, F, O, z⟩ per.toNat, e.t ≤ tt ∧ (e.t = tt → e.o = false) := fun e he => es_trip (r := ⟨per, dd, tt, F, O, z⟩) he ht0
  have hval := es_valid (r := ⟨per, dd, tt, F, O, z⟩) (per := per)
  have hfold := fold_es (r := ⟨per, dd, tt, F, O, z⟩) hloks per.toNat
  have hend : tt ≠ per → ∀ l, (Rq.at_ ⟨per, dd, tt, F, O, z⟩ l per.toNat).s = 0 := fun hne l => by
    obtain ⟨q, hq⟩ : ∃ q, per.toNat = q + 1 := ⟨per.toNat - 1, by omega⟩
    rw [hq]
    exact at_zero (r := ⟨per, dd, tt, F, O, z⟩) (by show tt ≤ (q : Int); omega)
  have hlen := Rq.es_len ⟨per, dd, tt, F, O, z⟩ per.toNat
  obtain ⟨y, hy⟩ : ∃ y, (fun l => Rq.at_ ⟨per, dd, tt, F, O, z⟩ l per.toNat) = y := ⟨_, rfl⟩
  obtain ⟨es, hes⟩ : ∃ es, Rq.es ⟨per, dd, tt, F, O, z⟩ per.toNat = es := ⟨_, rfl⟩
  have hend' : tt ≠ per → ∀ l, (y l).s = 0 := fun hne l => by rw [← hy]; exact hend hne l
  simp only [hy, hes] at hru htr hval hfold
  rw [hes] at hlen
  have hl2 : es.length ≤ 12288 := by omega
  have hon : onL z = [(z 0).s == 2, (z 0).s == 1, (z 1).s == 2, (z 1).s == 1, (z 2).s == 2, (z 2).s == 1] := rfl
  unfold cellsL at hst hru
  unfold cellsP at hru
  unfold cellsD at hdr
  have HST := hide hst
  have HDR := hide hdr
  have HRU := hide hru
  have HTR := Lib.hid htr
  have HVAL := Lib.hid hval
  have HFO := Lib.hid hfold
  have HEND := Lib.hid hend'
  clear hst hdr hru htr hval hfold hend hend' hy hes hlen hrg hdv hloks hon
  unfold cellsL cellsD at g0 g1 hb0 ⊢
  go_enter Try.func8, Try.ntmps8
  go_wp2_with fail
  refine (awakeG_walk _).mono ?_
  rintro e w1 ⟨rfl, hb1⟩
  have hb2 := hb0.trans (hb1.mono hb0.size)
  have g01 := g0.below hb1 g0.lt
  have g11 := g1.below hb1 g1.lt
  clear hb0 g0 g1 hb1
  obtain ⟨x0, x1, x2, x3, x4, x5⟩ := g01.c6
  go_wp2_with fail
  refine ((unhide HST) _).mono ?_
  rintro e w2 ⟨rfl, hb3⟩
  have hb4 := hb2.trans (hb3.mono hb2.size)
  have g02 := g01.below hb3 g01.lt
  have g12 := g11.below hb3 g11.lt
  clear hb2 hb3 g01 g11 x0 x1 x2 x3 x4 x5
  obtain ⟨x0, x1, x2, x3, x4, x5⟩ := g02.c6
  obtain ⟨y0, y1, y2, y3, y4, y5, y6, y7, y8⟩ := g12.c9
  have fs0 := g02.frozen 0
  have fs1 := g02.frozen 1
  have fs2 := g02.frozen 2
  have fs3 := g02.frozen 3
  have fs4 := g02.frozen 4
  have fs5 := g02.frozen 5
  have g03 : Blk _ w.heap.size 48 #[.int .i64 (z 0).s, .int .i64 (z 0).j, .int .i64 (z 1).s, .int .i64 (z 1).j, .int .i64 (z 2).s, .int .i64 (z 2).j] := ((((((g02.set_ 0 (.int .i64 ((z 0).s))).set_ 1 (.int .i64 ((z 0).j))).set_ 2 (.int .i64 ((z 1).s))).set_ 3 (.int .i64 ((z 1).j))).set_ 4 (.int .i64 ((z 2).s))).set_ 5 (.int .i64 ((z 2).j)))
  have g13 := ((((((g12.far (p := ⟨w.heap.size, 0, none⟩) (by simp <;> omega) (.int .i64 ((z 0).s))).far (p := ⟨w.heap.size, 1, none⟩) (by simp <;> omega) (.int .i64 ((z 0).j))).far (p := ⟨w.heap.size, 2, none⟩) (by simp <;> omega) (.int .i64 ((z 1).s))).far (p := ⟨w.heap.size, 3, none⟩) (by simp <;> omega) (.int .i64 ((z 1).j))).far (p := ⟨w.heap.size, 4, none⟩) (by simp <;> omega) (.int .i64 ((z 2).s))).far (p := ⟨w.heap.size, 5, none⟩) (by simp <;> omega) (.int .i64 ((z 2).j)))
  have hb5 := ((((((hb4.setCell (p := ⟨w.heap.size, 0, none⟩) (by simp <;> omega) (.int .i64 ((z 0).s))).setCell (p := ⟨w.heap.size, 1, none⟩) (by simp <;> omega) (.int .i64 ((z 0).j))).setCell (p := ⟨w.heap.size, 2, none⟩) (by simp <;> omega) (.int .i64 ((z 1).s))).setCell (p := ⟨w.heap.size, 3, none⟩) (by simp <;> omega) (.int .i64 ((z 1).j))).setCell (p := ⟨w.heap.size, 4, none⟩) (by simp <;> omega) (.int .i64 ((z 2).s))).setCell (p := ⟨w.heap.size, 5, none⟩) (by simp <;> omega) (.int .i64 ((z 2).j)))
  go_wp2_with fail
  refine ((unhide HDR) _).mono ?_
  rintro e w4 ⟨rfl, hb6⟩
  have g04 := g03.below hb6 g03.lt
  have g14 := g13.below hb6 g13.lt
  have hb7 := hb5.trans (hb6.mono hb5.size)
  clear hb4 hb5 hb6 g02 g12 g03 g13 x0 x1 x2 x3 x4 x5 y0 y1 y2 y3 y4 y5 y6 y7 y8 fs0 fs1 fs2 fs3 fs4 fs5
  obtain ⟨x0, x1, x2, x3, x4, x5⟩ := g04.c6
  obtain ⟨y0, y1, y2, y3, y4, y5, y6, y7, y8⟩ := g14.c9
  have fd0 := g14.frozen 0
  have fd1 := g14.frozen 1
  have fd2 := g14.frozen 2
  have fd3 := g14.frozen 3
  have fd4 := g14.frozen 4
  have fd5 := g14.frozen 5
  have fd6 := g14.frozen 6
  have fd7 := g14.frozen 7
  have fd8 := g14.frozen 8
  have gg0 : Blk _ (w.heap.size + 1) 53 #[.int .i64 (F 0), .int .i64 (o 0), .int .i64 (f 1), .int .i64 (o 1), .int .i64 (f 2), .int .i64 (o 2), .int .i64 (p0), .int .i64 (d0), .int .i64 (t0)] := g14.set_ 0 (.int .i64 (F 0))
  have gg1 : Blk _ (w.heap.size + 1) 53 #[.int .i64 (F 0), .int .i64 (O 0), .int .i64 (f 1), .int .i64 (o 1), .int .i64 (f 2), .int .i64 (o 2), .int .i64 (p0), .int .i64 (d0), .int .i64 (t0)] := gg0.set_ 1 (.int .i64 (O 0))
  have gg2 : Blk _ (w.heap.size + 1) 53 #[.int .i64 (F 0), .int .i64 (O 0), .int .i64 (F 1), .int .i64 (o 1), .int .i64 (f 2), .int .i64 (o 2), .int .i64 (p0), .int .i64 (d0), .int .i64 (t0)] := gg1.set_ 2 (.int .i64 (F 1))
  have gg3 : Blk _ (w.heap.size + 1) 53 #[.int .i64 (F 0), .int .i64 (O 0), .int .i64 (F 1), .int .i64 (O 1), .int .i64 (f 2), .int .i64 (o 2), .int .i64 (p0), .int .i64 (d0), .int .i64 (t0)] := gg2.set_ 3 (.int .i64 (O 1))
  have gg4 : Blk _ (w.heap.size + 1) 53 #[.int .i64 (F 0), .int .i64 (O 0), .int .i64 (F 1), .int .i64 (O 1), .int .i64 (F 2), .int .i64 (o 2), .int .i64 (p0), .int .i64 (d0), .int .i64 (t0)] := gg3.set_ 4 (.int .i64 (F 2))
  have gg5 : Blk _ (w.heap.size + 1) 53 #[.int .i64 (F 0), .int .i64 (O 0), .int .i64 (F 1), .int .i64 (O 1), .int .i64 (F 2), .int .i64 (O 2), .int .i64 (p0), .int .i64 (d0), .int .i64 (t0)] := gg4.set_ 5 (.int .i64 (O 2))
  have gg6 : Blk _ (w.heap.size + 1) 53 #[.int .i64 (F 0), .int .i64 (O 0), .int .i64 (F 1), .int .i64 (O 1), .int .i64 (F 2), .int .i64 (O 2), .int .i64 (per), .int .i64 (d0), .int .i64 (t0)] := gg5.set_ 6 (.int .i64 (per))
  have gg7 : Blk _ (w.heap.size + 1) 53 #[.int .i64 (F 0), .int .i64 (O 0), .int .i64 (F 1), .int .i64 (O 1), .int .i64 (F 2), .int .i64 (O 2), .int .i64 (per), .int .i64 (dd), .int .i64 (t0)] := gg6.set_ 7 (.int .i64 (dd))
  have g15 : Blk _ (w.heap.size + 1) 53 #[.int .i64 (F 0), .int .i64 (O 0), .int .i64 (F 1), .int .i64 (O 1), .int .i64 (F 2), .int .i64 (O 2), .int .i64 (per), .int .i64 (dd), .int .i64 (tt)] := gg7.set_ 8 (.int .i64 (tt))
  clear gg0 gg1 gg2 gg3 gg4 gg5 gg6 gg7
  have g05 := (((((((((g04.far (p := ⟨w.heap.size + 1, 0, none⟩) (by simp <;> omega) (.int .i64 (F 0))).far (p := ⟨w.heap.size + 1, 1, none⟩) (by simp <;> omega) (.int .i64 (O 0))).far (p := ⟨w.heap.size + 1, 2, none⟩) (by simp <;> omega) (.int .i64 (F 1))).far (p := ⟨w.heap.size + 1, 3, none⟩) (by simp <;> omega) (.int .i64 (O 1))).far (p := ⟨w.heap.size + 1, 4, none⟩) (by simp <;> omega) (.int .i64 (F 2))).far (p := ⟨w.heap.size + 1, 5, none⟩) (by simp <;> omega) (.int .i64 (O 2))).far (p := ⟨w.heap.size + 1, 6, none⟩) (by simp <;> omega) (.int .i64 (per))).far (p := ⟨w.heap.size + 1, 7, none⟩) (by simp <;> omega) (.int .i64 (dd))).far (p := ⟨w.heap.size + 1, 8, none⟩) (by simp <;> omega) (.int .i64 (tt)))
  have hb8 := (((((((((hb7.setCell (p := ⟨w.heap.size + 1, 0, none⟩) (by simp <;> omega) (.int .i64 (F 0))).setCell (p := ⟨w.heap.size + 1, 1, none⟩) (by simp <;> omega) (.int .i64 (O 0))).setCell (p := ⟨w.heap.size + 1, 2, none⟩) (by simp <;> omega) (.int .i64 (F 1))).setCell (p := ⟨w.heap.size + 1, 3, none⟩) (by simp <;> omega) (.int .i64 (O 1))).setCell (p := ⟨w.heap.size + 1, 4, none⟩) (by simp <;> omega) (.int .i64 (F 2))).setCell (p := ⟨w.heap.size + 1, 5, none⟩) (by simp <;> omega) (.int .i64 (O 2))).setCell (p := ⟨w.heap.size + 1, 6, none⟩) (by simp <;> omega) (.int .i64 (per))).setCell (p := ⟨w.heap.size + 1, 7, none⟩) (by simp <;> omega) (.int .i64 (dd))).setCell (p := ⟨w.heap.size + 1, 8, none⟩) (by simp <;> omega) (.int .i64 (tt)))
  go_wp2_with fail
  refine ((unhide HRU) _).mono ?_
  rintro e w5 ⟨A, n, c, rfl, rfl, hsl, _, hb9⟩
  have hbA := hb8.trans (hb9.mono hb8.size)
  have g16 := g15.below hb9 g15.lt
  clear hb7 hb8 g04 g14 g05 g15 x0 x1 x2 x3 x4 x5 y0 y1 y2 y3 y4 y5 y6 y7 y8 fd0 fd1 fd2 fd3 fd4 fd5 fd6 fd7 fd8 hb9
  have lD : w.heap.size + 1 < w5.heap.size := g16.lt
  go_wp2
  have q16 := ((g16.alloc (.cells #[.int .i64 per, .bool ((z 0).s == 2), .bool ((z 0).s == 1), .bool ((z 1).s == 2), .bool ((z 1).s == 1), .bool ((z 2).s == 2), .bool ((z 2).s == 1), .slice A es.length c] 25)).alloc (.cells #[.int .i64 (y 0).s, .int .i64 (y 0).j, .int .i64 (y 1).s, .int .i64 (y 1).j, .int .i64 (y 2).s, .int .i64 (y 2).j] 48)).alloc (.cells #[.bool ((z 0).s == 2), .bool ((z 0).s == 1), .bool ((z 1).s == 2), .bool ((z 1).s == 1), .bool ((z 2).s == 2), .bool ((z 2).s == 1)] 22)
  have qY := (Blk.new' (w := w5.alloc (.cells #[.int .i64 per, .bool ((z 0).s == 2), .bool ((z 0).s == 1), .bool ((z 1).s == 2), .bool ((z 1).s == 1), .bool ((z 2).s == 2), .bool ((z 2).s == 1), .slice A es.length c] 25)) (t := 48) (cs := #[.int .i64 (y 0).s, .int .i64 (y 0).j, .int .i64 (y 1).s, .int .i64 (y 1).j, .int .i64 (y 2).s, .int .i64 (y 2).j]) (g := w5.heap.size + 1) (by simp)).alloc (.cells #[.bool ((z 0).s == 2), .bool ((z 0).s == 1), .bool ((z 1).s == 2), .bool ((z 1).s == 1), .bool ((z 2).s == 2), .bool ((z 2).s == 1)] 22)
  have qO := Blk.new' (w := (w5.alloc (.cells #[.int .i64 per, .bool ((z 0).s == 2), .bool ((z 0).s == 1), .bool ((z 1).s == 2), .bool ((z 1).s == 1), .bool ((z 2).s == 2), .bool ((z 2).s == 1), .slice A es.length c] 25)).alloc (.cells #[.int .i64 (y 0).s, .int .i64 (y 0).j, .int .i64 (y 1).s, .int .i64 (y 1).j, .int .i64 (y 2).s, .int .i64 (y 2).j] 48)) (t := 22) (cs := #[.bool ((z 0).s == 2), .bool ((z 0).s == 1), .bool ((z 1).s == 2), .bool ((z 1).s == 1), .bool ((z 2).s == 2), .bool ((z 2).s == 1)]) (g := w5.heap.size + 1 + 1) (by simp)
  have qS := ((hsl.alloc (Nat.le_refl _) (.cells #[.int .i64 per, .bool ((z 0).s == 2), .bool ((z 0).s == 1), .bool ((z 1).s == 2), .bool ((z 1).s == 1), .bool ((z 2).s == 2), .bool ((z 2).s == 1), .slice A es.length c] 25)).alloc (by simp) (.cells #[.int .i64 (y 0).s, .int .i64 (y 0).j, .int .i64 (y 1).s, .int .i64 (y 1).j, .int .i64 (y 2).s, .int .i64 (y 2).j] 48)).alloc (by simp <;> omega) (.cells #[.bool ((z 0).s == 2), .bool ((z 0).s == 1), .bool ((z 1).s == 2), .bool ((z 1).s == 1), .bool ((z 2).s == 2), .bool ((z 2).s == 1)] 22)
  have qB := ((hbA.alloc hbA.size (.cells #[.int .i64 per, .bool ((z 0).s == 2), .bool ((z 0).s == 1), .bool ((z 1).s == 2), .bool ((z 1).s == 1), .bool ((z 2).s == 2), .bool ((z 2).s == 1), .slice A es.length c] 25)).alloc (by have := hbA.size; simp <;> omega) (.cells #[.int .i64 (y 0).s, .int .i64 (y 0).j, .int .i64 (y 1).s, .int .i64 (y 1).j, .int .i64 (y 2).s, .int .i64 (y 2).j] 48)).alloc (by have := hbA.size; simp <;> omega) (.cells #[.bool ((z 0).s == 2), .bool ((z 0).s == 1), .bool ((z 1).s == 2), .bool ((z 1).s == 1), .bool ((z 2).s == 2), .bool ((z 2).s == 1)] 22)
  have lB := hbA.size
  clear g16 hsl hbA
  go_loopw [42] (fun i wr => ∃ k : Nat, k ≤ es.length ∧ i = .int .i64 k ∧ Blk wr (w5.heap.size + 1 + 1) 22 (cellsS ((es.take k).foldl step (onL z))) ∧ Blk wr (w.heap.size + 1) 53 #[.int .i64 (F 0), .int .i64 (O 0), .int .i64 (F 1), .int .i64 (O 1), .int .i64 (F 2), .int .i64 (O 2), .int .i64 per, .int .i64 dd, .int .i64 tt] ∧ Blk wr (w5.heap.size + 1) 48 #[.int .i64 (y 0).s, .int .i64 (y 0).j, .int .i64 (y 1).s, .int .i64 (y 1).j, .int .i64 (y 2).s, .int .i64 (y 2).j] ∧ Sl wr w5.heap.size 3 A (es.map Ed.row) ∧ Below w.heap.size w wr) (fun i _ => es.length - (intOf i).toNat)
  case atStart => exact ⟨0, Nat.zero_le _, rfl, qO, q16, qY, qS, qB⟩
  case round =>
  clear q16 qY qO qS qB
  obtain ⟨k, hk, rfl, qO, q16, qY, qS, qB⟩ := hrel
  obtain ⟨u0, u1, u2, u3, u4, u5, u6, u7, u8⟩ := q16.c9
  have lO := qO.lt
  have lY := qY.lt
  have lD2 := q16.lt
  by_cases hlt : k < es.length
  · obtain ⟨e, he⟩ : ∃ e, es[k]? = some e := ⟨_, List.getElem?_eq_getElem hlt⟩
    obtain ⟨ad, p, rfl, hpa, hpb, e0, e1, e2⟩ := qS.three (k := k) (x := .int .i64 e.t) (y := .int .i64 e.s) (z := .bool e.o) (by rw [List.getElem?_map, he]; rfl)
    have hpb1 : p.block < wr.heap.size := by omega
    obtain ⟨hin, hno⟩ := HTR.out e (List.mem_of_getElem? he)
    obtain ⟨hs0, hs5⟩ : 0 ≤ e.s ∧ e.s ≤ 5 := by
      have := HVAL.out.ins k hlt
      rw [(List.getElem?_eq_some_iff.1 he).2] at this
      exact this.2.2
    obtain ⟨ob, hob⟩ := cellsS_get (l := (es.take k).foldl step (onL z)) (by rw [fold_length, onL_length]) (i := e.s.toNat) (by omega)
    have hc := (qO.cell e.s.toNat).trans hob
    have hfo := qO.frozen e.s.toNat
    have hst : Hid (cellsS ((es.take (k + 1)).foldl step (onL z)) = (cellsS ((es.take k).foldl step (onL z))).setIfInBounds e.s.toNat (.bool e.o)) := by
      show _ = _
      rw [cellsS_step, (List.getElem?_eq_some_iff.1 he).2.symm, List.take_succ_eq_append_getElem hlt, List.foldl_append]
      rfl
    have hs6 : e.s < 6 := by omega
    clear he hob
    by_cases htt : e.t = tt
    · have hoo := hno htt
      rw [hoo] at e2 hst
      go_wp2
      go_roundw
      case rel =>
        refine ⟨k + 1, by omega, by go_num, ?_, (q16.far (by simp <;> omega) _).alloc _, (qY.far (by simp <;> omega) _).alloc _, ?_, (qB.setCell (by simp <;> omega) _).alloc (by simp <;> omega) _⟩
        · rw [hst.out]; exact (qO.set_ _ _).alloc _
        · exact (qS.below ((Below.refl w5.heap.size wr).setCell (by simp <;> omega) _)).alloc (by simp <;> omega) _
      case measure => simp [intOf]; omega
    · have hlt2 : e.t < tt := by omega
      go_wp2
      go_roundw
      case rel =>
        refine ⟨k + 1, by omega, by go_num, ?_, (q16.far (by simp <;> omega) _).alloc _, (qY.far (by simp <;> omega) _).alloc _, ?_, (qB.setCell (by simp <;> omega) _).alloc (by simp <;> omega) _⟩
        · rw [hst.out]; exact (qO.set_ _ _).alloc _
        · exact (qS.below ((Below.refl w5.heap.size wr).setCell (by simp <;> omega) _)).alloc (by simp <;> omega) _
      case measure => simp [intOf]; omega
  · obtain rfl : k = es.length := by omega
    by_cases htp : tt = per
    · subst htp
      go_wp2
      go_ret
      exact ⟨rfl, qB⟩
    · have hz := HEND.out htp
      have hon : onL y = [false, false, false, false, false, false] := by unfold onL; rw [hz 0, hz 1, hz 2]; rfl
      rw [List.take_length, HFO.out, hon] at qO
      rw [hz 0, hz 1, hz 2] at qY
      have b1 : (tt == per) = false := by simpa using htp
      have hq6 := trip_eq6
      obtain ⟨v0, v1, v2, v3, v4, v5⟩ := (show Blk wr (w5.heap.size + 1 + 1) 22 #[.bool false, .bool false, .bool false, .bool false, .bool false, .bool false] from qO).c6
      obtain ⟨t0', t1', t2', t3', t4', t5'⟩ := qY.c6
      clear hz hon
      go_wp2
      go_ret
      exact ⟨rfl, qB⟩

end Go.Proofs.Ytgnojdiecgfeaaa
