/- The walk of the reference's Times of layer 24. -/
import Derived.Test.YtgnojdiecgfeaaaTimes
import Derived.Test.YtgnojdiecgfeaaaRunBad
import Derived.Test.YtgnojdiecgfeaaaEdges24
import Derived.Deep.CutRange
namespace Go.Proofs.Ytgnojdiecgfeaaa
open Go.RowKit

theorem rng_zero (per : Int) : rngOk ⟨0, 0⟩ ⟨0, 0⟩ ⟨0, 0⟩ per 1 = perOk per := by
  unfold rngOk
  simp [legOk, deadOk]

set_option maxRecDepth 100000 in
set_option maxHeartbeats 6400000 in
theorem rtimes_walk (per : Int) (b0 b1 b2 b3 b4 b5 : Bool) (A : Option Addr) (n c : Nat) (es : List Ed) (w : World) (hE : Sl w w.heap.size 3 A (es.map Ed.row)) (hn : n = es.length) (hm : n ≤ 1000000) :
    Calls Try.prog 54 #[.agg #[.int .i64 per, .bool b0, .bool b1, .bool b2, .bool b3, .bool b4, .bool b5, .slice A n c]] w fun e w' =>
      e = .returned (.tuple #[.agg #[.int .i64 (tms per [b0, b1, b2, b3, b4, b5] es 0 0), .int .i64 (tms per [b0, b1, b2, b3, b4, b5] es 0 1), .int .i64 (tms per [b0, b1, b2, b3, b4, b5] es 0 2), .int .i64 (tms per [b0, b1, b2, b3, b4, b5] es 1 0), .int .i64 (tms per [b0, b1, b2, b3, b4, b5] es 1 1), .int .i64 (tms per [b0, b1, b2, b3, b4, b5] es 1 2), .int .i64 (tms per [b0, b1, b2, b3, b4, b5] es 2 0), .int .i64 (tms per [b0, b1, b2, b3, b4, b5] es 2 1), .int .i64 (tms per [b0, b1, b2, b3, b4, b5] es 2 2)], .int .i64 (chk per es)]) ∧ Below w.heap.size w w' := by
  have HN := Lib.hid hn
  clear hn
  have hb0 := ((Below.refl w.heap.size w).alloc (Nat.le_refl _) (.cells #[.int .i64 per, .bool b0, .bool b1, .bool b2, .bool b3, .bool b4, .bool b5, .slice A n c] 25)).alloc (by simp) (.cells #[.int .i64 0, .int .i64 0, .int .i64 0, .int .i64 0, .int .i64 0, .int .i64 0, .int .i64 0, .int .i64 0, .int .i64 0] 66)
  have g0 := (Blk.new w 25 #[.int .i64 per, .bool b0, .bool b1, .bool b2, .bool b3, .bool b4, .bool b5, .slice A n c]).alloc (.cells #[.int .i64 0, .int .i64 0, .int .i64 0, .int .i64 0, .int .i64 0, .int .i64 0, .int .i64 0, .int .i64 0, .int .i64 0] 66)
  have g1 := Blk.new' (w := w.alloc (.cells #[.int .i64 per, .bool b0, .bool b1, .bool b2, .bool b3, .bool b4, .bool b5, .slice A n c] 25)) (t := 66) (cs := #[.int .i64 0, .int .i64 0, .int .i64 0, .int .i64 0, .int .i64 0, .int .i64 0, .int .i64 0, .int .i64 0, .int .i64 0]) (g := w.heap.size + 1) (by simp)
  obtain ⟨r0, r1, r2, r3, r4, r5, r6, r7, r8⟩ := g1.c9
  have q0 := g1.frozen 0
  clear r0 r1 r2 r3 r4 r5 r6 r7 r8 q0
  obtain ⟨y0, y1, y2, y3, y4, y5, y6, y7⟩ := g0.c8
  rcases Bool.eq_false_or_eq_true (perOk per) with hp | hp
  case inr =>
    have hc3 : chk per es = 3 := chk_range hp
    have hbad := fun W => rranges_bad 0 0 0 0 0 0 per 1 W (by rw [rng_zero]; exact hp)
    have HC := Lib.hid hc3
    have HB := hide hbad
    clear hc3 hp hbad
    go_enter Try.func54, Try.ntmps54
    go_wp2_with fail
    refine ((unhide HB) _).mono ?_
    rintro e w1 ⟨rfl, hb1⟩
    have hb2 := hb0.trans (hb1.mono hb0.size)
    have g11 := g1.below hb1 g1.lt
    have l1 := g11.lt
    clear g0 g1 hb0 hb1 y0 y1 y2 y3 y4 y5 y6 y7
    obtain ⟨z0, z1, z2, z3, z4, z5, z6, z7, z8⟩ := g11.c9
    have f0 := g11.frozen 0
    have f1 := g11.frozen 1
    have f2 := g11.frozen 2
    have f3 := g11.frozen 3
    have f4 := g11.frozen 4
    have f5 := g11.frozen 5
    have f6 := g11.frozen 6
    have f7 := g11.frozen 7
    have f8 := g11.frozen 8
    go_wp2
    refine bodyPost_ret (ret_cell_tmp rfl rfl (load_33 (((((((((g11.set_ 0 _).set_ 1 _).set_ 2 _).set_ 3 _).set_ 4 _).set_ 5 _).set_ 6 _).set_ 7 _).set_ 8 _))) rfl ⟨?_, ?_⟩
    · simp only [tms, HC.out]
      rfl
    · exact ((((((((hb2.setCell (Nat.le_succ _) _).setCell (Nat.le_succ _) _).setCell (Nat.le_succ _) _).setCell (Nat.le_succ _) _).setCell (Nat.le_succ _) _).setCell (Nat.le_succ _) _).setCell (Nat.le_succ _) _).setCell (Nat.le_succ _) _).setCell (Nat.le_succ _) _
  case inl =>
    have hp' : 64 ≤ per ∧ per ≤ 4096 := by simpa [perOk] using hp
    obtain ⟨hp1, hp2⟩ := hp'
    have hrg := fun W => rranges_walk 0 0 0 0 0 0 per 1 W (by decide) (by decide) (by decide) (by decide) (by decide) (by decide) (by decide) (by decide) (by decide) (by decide) (by decide) (by decide) hp1 hp2 (by decide) (by decide)
    have hed := fun (W : World) (h : Sl W W.heap.size 3 A (es.map Ed.row)) => edges24_walk per b0 b1 b2 b3 b4 b5 A n c es W h HN.out hm
    obtain ⟨sh, hsh⟩ : ∃ sh, shape per es = sh := ⟨_, rfl⟩
    have hsp : shp per es = if sh = true then 0 else 11 := by unfold shp; rw [hsh]
    simp only [hsp] at hed
    have HRG := hide hrg
    have HED := hide hed
    have HSH := Lib.hid hsh
    have HP := Lib.hid hp
    clear hrg hed hsp hsh hp
    go_enter Try.func54, Try.ntmps54
    go_wp2_with fail
    refine ((unhide HRG) _).mono ?_
    rintro e w1 ⟨rfl, hb1⟩
    have hb2 := hb0.trans (hb1.mono hb0.size)
    have g01 := g0.below hb1 g0.lt
    have g11 := g1.below hb1 g1.lt
    clear hb0 hb1 g0 g1 HRG y0 y1 y2 y3 y4 y5 y6 y7
    obtain ⟨y0, y1, y2, y3, y4, y5, y6, y7⟩ := g01.c8
    have l0 := g01.lt
    go_wp2_with fail
    refine ((unhide HED) _ ((hE.below hb2).more hb2.size)).mono ?_
    rintro e w2 ⟨rfl, hb3⟩
    have hb4 := hb2.trans (hb3.mono hb2.size)
    have g02 := g01.below hb3 g01.lt
    have g12 := g11.below hb3 g11.lt
    clear hb2 hb3 g01 g11 HED y0 y1 y2 y3 y4 y5 y6 y7 l0
    have l0 := g02.lt
    have l1 := g12.lt
    cases sh
    case false =>
      have HC : Hid (chk per es = 11) := by show _ = _; unfold chk; rw [HP.out, HSH.out]; rfl
      obtain ⟨z0, z1, z2, z3, z4, z5, z6, z7, z8⟩ := g12.c9
      have f0 := g12.frozen 0
      have f1 := g12.frozen 1
      have f2 := g12.frozen 2
      have f3 := g12.frozen 3
      have f4 := g12.frozen 4
      have f5 := g12.frozen 5
      have f6 := g12.frozen 6
      have f7 := g12.frozen 7
      have f8 := g12.frozen 8
      go_wp2
      refine bodyPost_ret (ret_cell_tmp rfl rfl (load_33 (((((((((g12.set_ 0 _).set_ 1 _).set_ 2 _).set_ 3 _).set_ 4 _).set_ 5 _).set_ 6 _).set_ 7 _).set_ 8 _))) rfl ⟨?_, ?_⟩
      · simp only [tms, HC.out]
        rfl
      · exact ((((((((hb4.setCell (Nat.le_succ _) _).setCell (Nat.le_succ _) _).setCell (Nat.le_succ _) _).setCell (Nat.le_succ _) _).setCell (Nat.le_succ _) _).setCell (Nat.le_succ _) _).setCell (Nat.le_succ _) _).setCell (Nat.le_succ _) _).setCell (Nat.le_succ _) _
    case true =>
      have hc0 : chk per es = 0 := by unfold chk; rw [HP.out, HSH.out]; rfl
      obtain ⟨_, _, hv⟩ := chk_zero hc0
      have HC := Lib.hid hc0
      clear hc0
      obtain ⟨y0, y1, y2, y3, y4, y5, y6, y7⟩ := g02.c8
      go_wp2
      go_cut [6, 7, 8] from 25 to 28 (fun u6 u7 u8 wx => u8 = .int .i64 0 ∧ ∃ adO adI : Nat, u6 = .pointer (some ⟨adO, 0, none⟩) ∧ u7 = .pointer (some ⟨adI, 0, none⟩) ∧ adO ≠ adI ∧ w.heap.size + 1 < adO ∧ w.heap.size + 1 < adI ∧ Blk wx adO 66 #[.int .i64 0, .int .i64 0, .int .i64 0, .int .i64 0, .int .i64 0, .int .i64 0, .int .i64 0, .int .i64 0, .int .i64 0] ∧ Blk wx adI 22 #[.bool b0, .bool b1, .bool b2, .bool b3, .bool b4, .bool b5] ∧ Blk wx w.heap.size 25 #[.int .i64 per, .bool b0, .bool b1, .bool b2, .bool b3, .bool b4, .bool b5, .slice A n c] ∧ Blk wx (w.heap.size + 1) 66 #[.int .i64 0, .int .i64 0, .int .i64 0, .int .i64 0, .int .i64 0, .int .i64 0, .int .i64 0, .int .i64 0, .int .i64 0] ∧ Below w.heap.size w wx)
      case first =>
        go_region
        all_goals go_wp2
        all_goals
          go_meet
          case rel =>
            refine ⟨rfl, _, _, rfl, rfl, by omega, by omega, by omega, ?_, ?_, ?_, ?_, ?_⟩
            · first | exact Blk.drew ((Blk.new _ _ _).alloc _) | exact Blk.drew (Blk.new' (by simp)) | exact (Blk.new _ _ _).alloc _ | exact Blk.new' (by simp)
            · first | exact Blk.drew ((Blk.new _ _ _).alloc _) | exact Blk.drew (Blk.new' (by simp)) | exact (Blk.new _ _ _).alloc _ | exact Blk.new' (by simp)
            · first | exact Blk.drew ((g02.alloc _).alloc _) | exact (g02.alloc _).alloc _
            · first | exact Blk.drew ((g12.alloc _).alloc _) | exact (g12.alloc _).alloc _
            · first | exact Below.drew ((hb4.alloc hb4.size _).alloc (by have := hb4.size; simp <;> omega) _) | exact (hb4.alloc hb4.size _).alloc (by have := hb4.size; simp <;> omega) _
      case rest =>
      obtain ⟨rfl, adO, adI, rfl, rfl, hOI, hOw, hIw, hO, hI, hG, hR, hB⟩ := hcut
      clear g02 g12 hb4 l0 l1 y0 y1 y2 y3 y4 y5 y6 y7
      obtain ⟨y0, y1, y2, y3, y4, y5, y6, y7⟩ := hG.c8
      have n1 := hG.lt
      go_wp2
      go_loopw [8, 30] (fun x i wr => ∃ (k j : Nat) (c0 c1 c2 c3 c4 c5 : Bool) (s00 s01 s02 s10 s11 s12 s20 s21 s22 : Int), (k : Int) ≤ per ∧ j ≤ n ∧ i = .int .i64 k ∧ x = .int .i64 j ∧
      Hid ((es.take j).foldl step [b0, b1, b2, b3, b4, b5] = [c0, c1, c2, c3, c4, c5]) ∧ Hid (∀ i e, i < j → es[i]? = some e → e.t < k) ∧ Hid (∀ i e, j ≤ i → es[i]? = some e → (k : Int) ≤ e.t) ∧
      Hid (tmR [b0, b1, b2, b3, b4, b5] es 0 0 k = s00) ∧ Hid (tmR [b0, b1, b2, b3, b4, b5] es 0 1 k = s01) ∧ Hid (tmR [b0, b1, b2, b3, b4, b5] es 0 2 k = s02) ∧ Hid (tmR [b0, b1, b2, b3, b4, b5] es 1 0 k = s10) ∧ Hid (tmR [b0, b1, b2, b3, b4, b5] es 1 1 k = s11) ∧ Hid (tmR [b0, b1, b2, b3, b4, b5] es 1 2 k = s12) ∧ Hid (tmR [b0, b1, b2, b3, b4, b5] es 2 0 k = s20) ∧ Hid (tmR [b0, b1, b2, b3, b4, b5] es 2 1 k = s21) ∧ Hid (tmR [b0, b1, b2, b3, b4, b5] es 2 2 k = s22) ∧
      Blk wr adO 66 #[.int .i64 s00, .int .i64 s01, .int .i64 s02, .int .i64 s10, .int .i64 s11, .int .i64 s12, .int .i64 s20, .int .i64 s21, .int .i64 s22] ∧ Blk wr (adI) 22 #[.bool c0, .bool c1, .bool c2, .bool c3, .bool c4, .bool c5] ∧
      Blk wr w.heap.size 25 #[.int .i64 per, .bool b0, .bool b1, .bool b2, .bool b3, .bool b4, .bool b5, .slice A n c] ∧ Blk wr (w.heap.size + 1) 66 #[.int .i64 0, .int .i64 0, .int .i64 0, .int .i64 0, .int .i64 0, .int .i64 0, .int .i64 0, .int .i64 0, .int .i64 0] ∧ Below w.heap.size w wr) (fun _ i _ => (per - intOf i).toNat)
      case atStart =>
        refine ⟨0, 0, b0, b1, b2, b3, b4, b5, 0, 0, 0, 0, 0, 0, 0, 0, 0, by omega, Nat.zero_le _, rfl, rfl, rfl, (fun i e h => by omega), (fun i e _ he => ?_), rfl, rfl, rfl, rfl, rfl, rfl, rfl, rfl, rfl, hO, hI, hG, hR, hB⟩
        obtain ⟨h1, rfl⟩ := List.getElem?_eq_some_iff.1 he
        exact (hv.ins i h1).1
      case round =>
        clear hO hI hG hR hB
        obtain ⟨k, j, c0, c1, c2, c3, c4, c5, s00, s01, s02, s10, s11, s12, s20, s21, s22, hk, hj, rfl, rfl, hst, hearly, hlate, hs00, hs01, hs02, hs10, hs11, hs12, hs20, hs21, hs22, hout, hblk, hbox, hres, hb⟩ := hrel
        obtain ⟨wo, rfl⟩ : ∃ wo : World, wo = wr := ⟨_, rfl⟩
        by_cases hlt : (k : Int) < per
        case pos =>
          have bd00 := tmR_bd [b0, b1, b2, b3, b4, b5] es 0 0 k
          have bd01 := tmR_bd [b0, b1, b2, b3, b4, b5] es 0 1 k
          have bd02 := tmR_bd [b0, b1, b2, b3, b4, b5] es 0 2 k
          have bd10 := tmR_bd [b0, b1, b2, b3, b4, b5] es 1 0 k
          have bd11 := tmR_bd [b0, b1, b2, b3, b4, b5] es 1 1 k
          have bd12 := tmR_bd [b0, b1, b2, b3, b4, b5] es 1 2 k
          have bd20 := tmR_bd [b0, b1, b2, b3, b4, b5] es 2 0 k
          have bd21 := tmR_bd [b0, b1, b2, b3, b4, b5] es 2 1 k
          have bd22 := tmR_bd [b0, b1, b2, b3, b4, b5] es 2 2 k
          rw [hs00.out] at bd00
          rw [hs01.out] at bd01
          rw [hs02.out] at bd02
          rw [hs10.out] at bd10
          rw [hs11.out] at bd11
          rw [hs12.out] at bd12
          rw [hs20.out] at bd20
          rw [hs21.out] at bd21
          rw [hs22.out] at bd22
          obtain ⟨bl00, bu00⟩ := bd00
          obtain ⟨bl01, bu01⟩ := bd01
          obtain ⟨bl02, bu02⟩ := bd02
          obtain ⟨bl10, bu10⟩ := bd10
          obtain ⟨bl11, bu11⟩ := bd11
          obtain ⟨bl12, bu12⟩ := bd12
          obtain ⟨bl20, bu20⟩ := bd20
          obtain ⟨bl21, bu21⟩ := bd21
          obtain ⟨bl22, bu22⟩ := bd22
          go_wp2
          go_loopw [8] (fun x wr => ∃ (j : Nat) (c0 c1 c2 c3 c4 c5 : Bool), j ≤ n ∧ x = .int .i64 j ∧
          Hid ((es.take j).foldl step [b0, b1, b2, b3, b4, b5] = [c0, c1, c2, c3, c4, c5]) ∧ Hid (∀ i e, i < j → es[i]? = some e → e.t ≤ k) ∧ Hid (∀ i e, j ≤ i → es[i]? = some e → (k : Int) ≤ e.t) ∧
          Blk wr adO 66 #[.int .i64 s00, .int .i64 s01, .int .i64 s02, .int .i64 s10, .int .i64 s11, .int .i64 s12, .int .i64 s20, .int .i64 s21, .int .i64 s22] ∧ Blk wr (adI) 22 #[.bool c0, .bool c1, .bool c2, .bool c3, .bool c4, .bool c5] ∧ Blk wr w.heap.size 25 #[.int .i64 per, .bool b0, .bool b1, .bool b2, .bool b3, .bool b4, .bool b5, .slice A n c] ∧ Blk wr (w.heap.size + 1) 66 #[.int .i64 0, .int .i64 0, .int .i64 0, .int .i64 0, .int .i64 0, .int .i64 0, .int .i64 0, .int .i64 0, .int .i64 0] ∧ Below w.heap.size w wr) (fun x _ => n - (intOf x).toNat)
          case atStart => exact ⟨j, c0, c1, c2, c3, c4, c5, hj, rfl, hst, (fun i e h1 h2 => by have := hearly.out i e h1 h2; omega), hlate, hout, hblk, hbox, hres, hb⟩
          case round =>
            clear hst hearly hlate hout hblk hbox hres hb
            obtain ⟨j, c0, c1, c2, c3, c4, c5, hj, rfl, hst, hearly, hlate, hout, hblk, hbox, hres, hb⟩ := hrel
            have h7 := hbox.c8.2.2.2.2.2.2.2
            have hsz : adI < wr.heap.size := hblk.lt
            have hszO := hout.lt
            have hszG := hbox.lt
            obtain ⟨k0, k1, k2, k3, k4, k5⟩ := hblk.c6
            by_cases hgo : ∃ e, es[j]? = some e ∧ e.t = (k : Int)
            case pos =>
              obtain ⟨e, he, hek⟩ := hgo
              have hjl := (List.getElem?_eq_some_iff.1 he).1
              have hjn : j < n := by have := HN.out; omega
              obtain ⟨ad, p, rfl, hpa, hpb, e0, e1, e2⟩ := (hE.below hb).three (k := j) (x := .int .i64 (k : Int)) (y := .int .i64 e.s) (z := .bool e.o) (by rw [List.getElem?_map, he, ← hek]; rfl)
              have hpb1 : p.block < wr.heap.size := by omega
              obtain ⟨hin3, hin4⟩ : 0 ≤ e.s ∧ e.s ≤ 5 := by
                obtain ⟨h1, rfl⟩ := List.getElem?_eq_some_iff.1 he
                exact (hv.ins j h1).2.2
              obtain ⟨d0, d1, d2, d3, d4, d5, hs1, hs2, x, hx⟩ := six_set c0 c1 c2 c3 c4 c5 e.o e.s.toNat (by omega)
              have HE := Lib.hid he
              have HEK := Lib.hid hek
              have HS1 := Lib.hid hs1
              have HS2 := Lib.hid hs2
              clear hs1 hs2 he hek
              have hcx := hblk.cell e.s.toNat
              rw [hx] at hcx
              have hfx := hblk.frozen e.s.toNat
              clear hx
              go_wp2
              go_region
              all_goals go_wp2
              all_goals go_roundw
              case rel =>
                refine ⟨j + 1, d0, d1, d2, d3, d4, d5, by omega, by go_num, ?_, ?_, ?_, hout.far (by first | omega | (simp <;> omega)) _, ?_, hbox.far (by first | omega | (simp <;> omega)) _, hres.far (by first | omega | (simp <;> omega)) _, (hb.setCell (by first | omega | (simp <;> omega)) _).drew⟩
                · show _ = _
                  rw [fold_take HE.out, hst.out, ← HS2.out]; rfl
                · intro i x' h1 h2
                  by_cases hij : i = j
                  · subst hij
                    rw [HE.out] at h2
                    injection h2 with h2
                    subst h2
                    exact Int.le_of_eq HEK.out
                  · exact hearly.out i x' (by omega) h2
                · exact fun i x' h1 h2 => hlate.out i x' (by omega) h2
                · rw [← HS1.out]; exact hblk.set_ _ _
              case measure => simp [intOf]; omega
            case neg =>
              obtain ⟨HR, hlate2⟩ := adv_done hv hst.out (fun i e hi he => hearly.out i e hi he) (fun i e hi he => hlate.out i e hi he) hgo
              have hcase : (∃ e, j < n ∧ es[j]? = some e ∧ (e.t == (k : Int)) = false) ∨ n ≤ j := by
                by_cases hjn : j < n
                · have hjl : j < es.length := by have := HN.out; omega
                  refine .inl ⟨_, hjn, List.getElem?_eq_getElem hjl, ?_⟩
                  rw [beq_eq_false_iff_ne]
                  exact fun h => hgo ⟨_, List.getElem?_eq_getElem hjl, h⟩
                · exact .inr (by omega)
              have HRR := Lib.hid HR
              have HLL := Lib.hid hlate2
              clear hgo HR hlate2
              have hend : Hid (n ≤ j ∨ (∃ e ad p, j < n ∧ (e.t == (k : Int)) = false ∧ A = some ad ∧ ad.add (j * 3) = p ∧ wr.cell? p = some (.int .i64 (Ed.t e)))) := by
                rcases hcase with ⟨e, hjn, he, hek⟩ | hjn
                · obtain ⟨ad, p, hA, hpa, hpb, e0, e1, e2⟩ := (hE.below hb).three (k := j) (x := .int .i64 e.t) (y := .int .i64 e.s) (z := .bool e.o) (by rw [List.getElem?_map, he]; rfl)
                  exact .inr ⟨e, ad, p, hjn, hek, hA, hpa, e0⟩
                · exact .inl hjn
              clear hcase
              obtain ⟨SL, hSL⟩ : ∃ SL, SL = Value.slice A n c := ⟨_, rfl⟩
              have hboxS : Blk wr w.heap.size 25 #[.int .i64 per, .bool b0, .bool b1, .bool b2, .bool b3, .bool b4, .bool b5, SL] := by rw [hSL]; exact hbox
              have HSL := Lib.hid hSL
              clear hSL
              rcases hend.out with hnj | ⟨e, ad, p, hjn, hek, rfl, hpa, e0⟩
              all_goals
                clear hend
                first
                | (have hdj : decide (j < n) = false := decide_eq_false (by omega)
                   clear hnj)
                | skip
                go_wp2
                clear k0 k1 k2 k3 k4 k5 h7
                go_loopw [63] (fun i wr => ((i = .int .i64 0 ∧ Blk wr adO 66 #[.int .i64 s00, .int .i64 s01, .int .i64 s02, .int .i64 s10, .int .i64 s11, .int .i64 s12, .int .i64 s20, .int .i64 s21, .int .i64 s22]) ∨ (i = .int .i64 1 ∧ Blk wr adO 66 #[.int .i64 (s00 + addC 0 0 [c0, c1, c2, c3, c4, c5]), .int .i64 (s01 + addC 0 1 [c0, c1, c2, c3, c4, c5]), .int .i64 (s02 + addC 0 2 [c0, c1, c2, c3, c4, c5]), .int .i64 s10, .int .i64 s11, .int .i64 s12, .int .i64 s20, .int .i64 s21, .int .i64 s22]) ∨ (i = .int .i64 2 ∧ Blk wr adO 66 #[.int .i64 (s00 + addC 0 0 [c0, c1, c2, c3, c4, c5]), .int .i64 (s01 + addC 0 1 [c0, c1, c2, c3, c4, c5]), .int .i64 (s02 + addC 0 2 [c0, c1, c2, c3, c4, c5]), .int .i64 (s10 + addC 1 0 [c0, c1, c2, c3, c4, c5]), .int .i64 (s11 + addC 1 1 [c0, c1, c2, c3, c4, c5]), .int .i64 (s12 + addC 1 2 [c0, c1, c2, c3, c4, c5]), .int .i64 s20, .int .i64 s21, .int .i64 s22]) ∨ (i = .int .i64 3 ∧ Blk wr adO 66 #[.int .i64 (s00 + addC 0 0 [c0, c1, c2, c3, c4, c5]), .int .i64 (s01 + addC 0 1 [c0, c1, c2, c3, c4, c5]), .int .i64 (s02 + addC 0 2 [c0, c1, c2, c3, c4, c5]), .int .i64 (s10 + addC 1 0 [c0, c1, c2, c3, c4, c5]), .int .i64 (s11 + addC 1 1 [c0, c1, c2, c3, c4, c5]), .int .i64 (s12 + addC 1 2 [c0, c1, c2, c3, c4, c5]), .int .i64 (s20 + addC 2 0 [c0, c1, c2, c3, c4, c5]), .int .i64 (s21 + addC 2 1 [c0, c1, c2, c3, c4, c5]), .int .i64 (s22 + addC 2 2 [c0, c1, c2, c3, c4, c5])])) ∧ Blk wr (adI) 22 #[.bool c0, .bool c1, .bool c2, .bool c3, .bool c4, .bool c5] ∧ Blk wr w.heap.size 25 #[.int .i64 per, .bool b0, .bool b1, .bool b2, .bool b3, .bool b4, .bool b5, SL] ∧ Blk wr (w.heap.size + 1) 66 #[.int .i64 0, .int .i64 0, .int .i64 0, .int .i64 0, .int .i64 0, .int .i64 0, .int .i64 0, .int .i64 0, .int .i64 0] ∧ Below w.heap.size w wr) (fun i _ => 3 - (intOf i).toNat)
                case atStart => exact ⟨.inl ⟨rfl, hout⟩, hblk, hboxS, hres, hb⟩
                case round =>
                  clear hout hblk hbox hboxS hres hb
                  obtain ⟨hd, hblk, hbox, hres, hb⟩ := hrel
                  have hsz2 : adI < wr.heap.size := hblk.lt
                  have hszG := hbox.lt
                  rcases hd with ⟨rfl, ho⟩ | ⟨rfl, ho⟩ | ⟨rfl, ho⟩ | ⟨rfl, ho⟩
                  · obtain ⟨k0, k1, k2, k3, k4, k5⟩ := hblk.c6
                    obtain ⟨z0, z1, z2, z3, z4, z5, z6, z7, z8⟩ := ho.c9
                    have hszO := ho.lt
                    have f0 := ho.frozen 0
                    have f1 := ho.frozen 1
                    have f2 := ho.frozen 2
                    have hx : (c0 = true ∧ c1 = true) ∨ (c0 = true ∧ c1 = false) ∨ (c0 = false ∧ c1 = true) ∨ (c0 = false ∧ c1 = false) := by cases c0 <;> cases c1 <;> simp
                    rcases hx with ⟨rfl, rfl⟩ | ⟨rfl, rfl⟩ | ⟨rfl, rfl⟩ | ⟨rfl, rfl⟩
                    · have a0 : addC 0 0 [true, true, c2, c3, c4, c5] = 1 := rfl
                      have a1 : addC 0 1 [true, true, c2, c3, c4, c5] = 1 := rfl
                      have a2 : addC 0 2 [true, true, c2, c3, c4, c5] = 0 := rfl
                      have A0 := Lib.hid a0
                      have A1 := Lib.hid a1
                      have A2 := Lib.hid a2
                      clear a0 a1 a2
                      go_wp2
                      go_region
                      all_goals go_wp2
                      all_goals go_region
                      all_goals go_wp2
                      all_goals go_roundw
                      case rel =>
                        refine ⟨.inr (.inl ⟨rfl, ?_⟩), ((hblk.far (by first | omega | (simp <;> omega)) _).far (by first | omega | (simp <;> omega)) _), ((hbox.far (by first | omega | (simp <;> omega)) _).far (by first | omega | (simp <;> omega)) _), ((hres.far (by first | omega | (simp <;> omega)) _).far (by first | omega | (simp <;> omega)) _), ((hb.setCell (by first | omega | (simp <;> omega)) _).setCell (by first | omega | (simp <;> omega)) _).drew.drew⟩
                        rw [A0.out, A1.out, A2.out]
                        simpa using ((ho.set_ 0 _).set_ 1 _).drew.drew
                      case measure => simp [intOf]
                    · have a0 : addC 0 0 [true, false, c2, c3, c4, c5] = 1 := rfl
                      have a1 : addC 0 1 [true, false, c2, c3, c4, c5] = 0 := rfl
                      have a2 : addC 0 2 [true, false, c2, c3, c4, c5] = 0 := rfl
                      have A0 := Lib.hid a0
                      have A1 := Lib.hid a1
                      have A2 := Lib.hid a2
                      clear a0 a1 a2
                      go_wp2
                      go_region
                      all_goals go_wp2
                      all_goals go_roundw
                      case rel =>
                        refine ⟨.inr (.inl ⟨rfl, ?_⟩), (hblk.far (by first | omega | (simp <;> omega)) _), (hbox.far (by first | omega | (simp <;> omega)) _), (hres.far (by first | omega | (simp <;> omega)) _), (hb.setCell (by first | omega | (simp <;> omega)) _).drew⟩
                        rw [A0.out, A1.out, A2.out]
                        simpa using (ho.set_ 0 _).drew
                      case measure => simp [intOf]
                    · have a0 : addC 0 0 [false, true, c2, c3, c4, c5] = 0 := rfl
                      have a1 : addC 0 1 [false, true, c2, c3, c4, c5] = 1 := rfl
                      have a2 : addC 0 2 [false, true, c2, c3, c4, c5] = 0 := rfl
                      have A0 := Lib.hid a0
                      have A1 := Lib.hid a1
                      have A2 := Lib.hid a2
                      clear a0 a1 a2
                      go_wp2
                      go_region
                      all_goals go_wp2
                      all_goals go_roundw
                      case rel =>
                        refine ⟨.inr (.inl ⟨rfl, ?_⟩), (hblk.far (by first | omega | (simp <;> omega)) _), (hbox.far (by first | omega | (simp <;> omega)) _), (hres.far (by first | omega | (simp <;> omega)) _), (hb.setCell (by first | omega | (simp <;> omega)) _).drew⟩
                        rw [A0.out, A1.out, A2.out]
                        simpa using (ho.set_ 1 _).drew
                      case measure => simp [intOf]
                    · have a0 : addC 0 0 [false, false, c2, c3, c4, c5] = 0 := rfl
                      have a1 : addC 0 1 [false, false, c2, c3, c4, c5] = 0 := rfl
                      have a2 : addC 0 2 [false, false, c2, c3, c4, c5] = 1 := rfl
                      have A0 := Lib.hid a0
                      have A1 := Lib.hid a1
                      have A2 := Lib.hid a2
                      clear a0 a1 a2
                      go_wp2
                      go_region
                      all_goals go_wp2
                      all_goals go_roundw
                      case rel =>
                        refine ⟨.inr (.inl ⟨rfl, ?_⟩), (hblk.far (by first | omega | (simp <;> omega)) _), (hbox.far (by first | omega | (simp <;> omega)) _), (hres.far (by first | omega | (simp <;> omega)) _), (hb.setCell (by first | omega | (simp <;> omega)) _).drew⟩
                        rw [A0.out, A1.out, A2.out]
                        simpa using (ho.set_ 2 _).drew
                      case measure => simp [intOf]
                  · obtain ⟨k0, k1, k2, k3, k4, k5⟩ := hblk.c6
                    obtain ⟨z0, z1, z2, z3, z4, z5, z6, z7, z8⟩ := ho.c9
                    have hszO := ho.lt
                    have f0 := ho.frozen 3
                    have f1 := ho.frozen 4
                    have f2 := ho.frozen 5
                    have hx : (c2 = true ∧ c3 = true) ∨ (c2 = true ∧ c3 = false) ∨ (c2 = false ∧ c3 = true) ∨ (c2 = false ∧ c3 = false) := by cases c2 <;> cases c3 <;> simp
                    rcases hx with ⟨rfl, rfl⟩ | ⟨rfl, rfl⟩ | ⟨rfl, rfl⟩ | ⟨rfl, rfl⟩
                    · have a0 : addC 1 0 [c0, c1, true, true, c4, c5] = 1 := rfl
                      have a1 : addC 1 1 [c0, c1, true, true, c4, c5] = 1 := rfl
                      have a2 : addC 1 2 [c0, c1, true, true, c4, c5] = 0 := rfl
                      have A0 := Lib.hid a0
                      have A1 := Lib.hid a1
                      have A2 := Lib.hid a2
                      clear a0 a1 a2
                      go_wp2
                      go_region
                      all_goals go_wp2
                      all_goals go_region
                      all_goals go_wp2
                      all_goals go_roundw
                      case rel =>
                        refine ⟨.inr (.inr (.inl ⟨rfl, ?_⟩)), ((hblk.far (by first | omega | (simp <;> omega)) _).far (by first | omega | (simp <;> omega)) _), ((hbox.far (by first | omega | (simp <;> omega)) _).far (by first | omega | (simp <;> omega)) _), ((hres.far (by first | omega | (simp <;> omega)) _).far (by first | omega | (simp <;> omega)) _), ((hb.setCell (by first | omega | (simp <;> omega)) _).setCell (by first | omega | (simp <;> omega)) _).drew.drew⟩
                        rw [A0.out, A1.out, A2.out]
                        simpa using ((ho.set_ 3 _).set_ 4 _).drew.drew
                      case measure => simp [intOf]
                    · have a0 : addC 1 0 [c0, c1, true, false, c4, c5] = 1 := rfl
                      have a1 : addC 1 1 [c0, c1, true, false, c4, c5] = 0 := rfl
                      have a2 : addC 1 2 [c0, c1, true, false, c4, c5] = 0 := rfl
                      have A0 := Lib.hid a0
                      have A1 := Lib.hid a1
                      have A2 := Lib.hid a2
                      clear a0 a1 a2
                      go_wp2
                      go_region
                      all_goals go_wp2
                      all_goals go_roundw
                      case rel =>
                        refine ⟨.inr (.inr (.inl ⟨rfl, ?_⟩)), (hblk.far (by first | omega | (simp <;> omega)) _), (hbox.far (by first | omega | (simp <;> omega)) _), (hres.far (by first | omega | (simp <;> omega)) _), (hb.setCell (by first | omega | (simp <;> omega)) _).drew⟩
                        rw [A0.out, A1.out, A2.out]
                        simpa using (ho.set_ 3 _).drew
                      case measure => simp [intOf]
                    · have a0 : addC 1 0 [c0, c1, false, true, c4, c5] = 0 := rfl
                      have a1 : addC 1 1 [c0, c1, false, true, c4, c5] = 1 := rfl
                      have a2 : addC 1 2 [c0, c1, false, true, c4, c5] = 0 := rfl
                      have A0 := Lib.hid a0
                      have A1 := Lib.hid a1
                      have A2 := Lib.hid a2
                      clear a0 a1 a2
                      go_wp2
                      go_region
                      all_goals go_wp2
                      all_goals go_roundw
                      case rel =>
                        refine ⟨.inr (.inr (.inl ⟨rfl, ?_⟩)), (hblk.far (by first | omega | (simp <;> omega)) _), (hbox.far (by first | omega | (simp <;> omega)) _), (hres.far (by first | omega | (simp <;> omega)) _), (hb.setCell (by first | omega | (simp <;> omega)) _).drew⟩
                        rw [A0.out, A1.out, A2.out]
                        simpa using (ho.set_ 4 _).drew
                      case measure => simp [intOf]
                    · have a0 : addC 1 0 [c0, c1, false, false, c4, c5] = 0 := rfl
                      have a1 : addC 1 1 [c0, c1, false, false, c4, c5] = 0 := rfl
                      have a2 : addC 1 2 [c0, c1, false, false, c4, c5] = 1 := rfl
                      have A0 := Lib.hid a0
                      have A1 := Lib.hid a1
                      have A2 := Lib.hid a2
                      clear a0 a1 a2
                      go_wp2
                      go_region
                      all_goals go_wp2
                      all_goals go_roundw
                      case rel =>
                        refine ⟨.inr (.inr (.inl ⟨rfl, ?_⟩)), (hblk.far (by first | omega | (simp <;> omega)) _), (hbox.far (by first | omega | (simp <;> omega)) _), (hres.far (by first | omega | (simp <;> omega)) _), (hb.setCell (by first | omega | (simp <;> omega)) _).drew⟩
                        rw [A0.out, A1.out, A2.out]
                        simpa using (ho.set_ 5 _).drew
                      case measure => simp [intOf]
                  · obtain ⟨k0, k1, k2, k3, k4, k5⟩ := hblk.c6
                    obtain ⟨z0, z1, z2, z3, z4, z5, z6, z7, z8⟩ := ho.c9
                    have hszO := ho.lt
                    have f0 := ho.frozen 6
                    have f1 := ho.frozen 7
                    have f2 := ho.frozen 8
                    have hx : (c4 = true ∧ c5 = true) ∨ (c4 = true ∧ c5 = false) ∨ (c4 = false ∧ c5 = true) ∨ (c4 = false ∧ c5 = false) := by cases c4 <;> cases c5 <;> simp
                    rcases hx with ⟨rfl, rfl⟩ | ⟨rfl, rfl⟩ | ⟨rfl, rfl⟩ | ⟨rfl, rfl⟩
                    · have a0 : addC 2 0 [c0, c1, c2, c3, true, true] = 1 := rfl
                      have a1 : addC 2 1 [c0, c1, c2, c3, true, true] = 1 := rfl
                      have a2 : addC 2 2 [c0, c1, c2, c3, true, true] = 0 := rfl
                      have A0 := Lib.hid a0
                      have A1 := Lib.hid a1
                      have A2 := Lib.hid a2
                      clear a0 a1 a2
                      go_wp2
                      go_region
                      all_goals go_wp2
                      all_goals go_region
                      all_goals go_wp2
                      all_goals go_roundw
                      case rel =>
                        refine ⟨.inr (.inr (.inr ⟨rfl, ?_⟩)), ((hblk.far (by first | omega | (simp <;> omega)) _).far (by first | omega | (simp <;> omega)) _), ((hbox.far (by first | omega | (simp <;> omega)) _).far (by first | omega | (simp <;> omega)) _), ((hres.far (by first | omega | (simp <;> omega)) _).far (by first | omega | (simp <;> omega)) _), ((hb.setCell (by first | omega | (simp <;> omega)) _).setCell (by first | omega | (simp <;> omega)) _).drew.drew⟩
                        rw [A0.out, A1.out, A2.out]
                        simpa using ((ho.set_ 6 _).set_ 7 _).drew.drew
                      case measure => simp [intOf]
                    · have a0 : addC 2 0 [c0, c1, c2, c3, true, false] = 1 := rfl
                      have a1 : addC 2 1 [c0, c1, c2, c3, true, false] = 0 := rfl
                      have a2 : addC 2 2 [c0, c1, c2, c3, true, false] = 0 := rfl
                      have A0 := Lib.hid a0
                      have A1 := Lib.hid a1
                      have A2 := Lib.hid a2
                      clear a0 a1 a2
                      go_wp2
                      go_region
                      all_goals go_wp2
                      all_goals go_roundw
                      case rel =>
                        refine ⟨.inr (.inr (.inr ⟨rfl, ?_⟩)), (hblk.far (by first | omega | (simp <;> omega)) _), (hbox.far (by first | omega | (simp <;> omega)) _), (hres.far (by first | omega | (simp <;> omega)) _), (hb.setCell (by first | omega | (simp <;> omega)) _).drew⟩
                        rw [A0.out, A1.out, A2.out]
                        simpa using (ho.set_ 6 _).drew
                      case measure => simp [intOf]
                    · have a0 : addC 2 0 [c0, c1, c2, c3, false, true] = 0 := rfl
                      have a1 : addC 2 1 [c0, c1, c2, c3, false, true] = 1 := rfl
                      have a2 : addC 2 2 [c0, c1, c2, c3, false, true] = 0 := rfl
                      have A0 := Lib.hid a0
                      have A1 := Lib.hid a1
                      have A2 := Lib.hid a2
                      clear a0 a1 a2
                      go_wp2
                      go_region
                      all_goals go_wp2
                      all_goals go_roundw
                      case rel =>
                        refine ⟨.inr (.inr (.inr ⟨rfl, ?_⟩)), (hblk.far (by first | omega | (simp <;> omega)) _), (hbox.far (by first | omega | (simp <;> omega)) _), (hres.far (by first | omega | (simp <;> omega)) _), (hb.setCell (by first | omega | (simp <;> omega)) _).drew⟩
                        rw [A0.out, A1.out, A2.out]
                        simpa using (ho.set_ 7 _).drew
                      case measure => simp [intOf]
                    · have a0 : addC 2 0 [c0, c1, c2, c3, false, false] = 0 := rfl
                      have a1 : addC 2 1 [c0, c1, c2, c3, false, false] = 0 := rfl
                      have a2 : addC 2 2 [c0, c1, c2, c3, false, false] = 1 := rfl
                      have A0 := Lib.hid a0
                      have A1 := Lib.hid a1
                      have A2 := Lib.hid a2
                      clear a0 a1 a2
                      go_wp2
                      go_region
                      all_goals go_wp2
                      all_goals go_roundw
                      case rel =>
                        refine ⟨.inr (.inr (.inr ⟨rfl, ?_⟩)), (hblk.far (by first | omega | (simp <;> omega)) _), (hbox.far (by first | omega | (simp <;> omega)) _), (hres.far (by first | omega | (simp <;> omega)) _), (hb.setCell (by first | omega | (simp <;> omega)) _).drew⟩
                        rw [A0.out, A1.out, A2.out]
                        simpa using (ho.set_ 8 _).drew
                      case measure => simp [intOf]
                  · go_wp2
                    go_roundw
                    case rel =>
                      refine ⟨k + 1, j, c0, c1, c2, c3, c4, c5, _, _, _, _, _, _, _, _, _, by omega, hj, by go_num, rfl, hst, (fun i e h1 h2 => by have := hearly.out i e h1 h2; omega), HLL.out, ?_, ?_, ?_, ?_, ?_, ?_, ?_, ?_, ?_, ho, hblk, by rw [HSL.out] at hbox; exact hbox, hres, hb⟩
                      all_goals (show _ = _)
                      · rw [tmR_succ HRR.out, hs00.out]
                      · rw [tmR_succ HRR.out, hs01.out]
                      · rw [tmR_succ HRR.out, hs02.out]
                      · rw [tmR_succ HRR.out, hs10.out]
                      · rw [tmR_succ HRR.out, hs11.out]
                      · rw [tmR_succ HRR.out, hs12.out]
                      · rw [tmR_succ HRR.out, hs20.out]
                      · rw [tmR_succ HRR.out, hs21.out]
                      · rw [tmR_succ HRR.out, hs22.out]
                    case measure => simp [intOf]; omega
        case neg =>
          have hkp : k = per.toNat := by omega
          have hr00 : Hid (tms per [b0, b1, b2, b3, b4, b5] es 0 0 = s00) := by show _ = _; unfold tms; rw [if_pos HC.out, ← hs00.out, hkp]
          have hr01 : Hid (tms per [b0, b1, b2, b3, b4, b5] es 0 1 = s01) := by show _ = _; unfold tms; rw [if_pos HC.out, ← hs01.out, hkp]
          have hr02 : Hid (tms per [b0, b1, b2, b3, b4, b5] es 0 2 = s02) := by show _ = _; unfold tms; rw [if_pos HC.out, ← hs02.out, hkp]
          have hr10 : Hid (tms per [b0, b1, b2, b3, b4, b5] es 1 0 = s10) := by show _ = _; unfold tms; rw [if_pos HC.out, ← hs10.out, hkp]
          have hr11 : Hid (tms per [b0, b1, b2, b3, b4, b5] es 1 1 = s11) := by show _ = _; unfold tms; rw [if_pos HC.out, ← hs11.out, hkp]
          have hr12 : Hid (tms per [b0, b1, b2, b3, b4, b5] es 1 2 = s12) := by show _ = _; unfold tms; rw [if_pos HC.out, ← hs12.out, hkp]
          have hr20 : Hid (tms per [b0, b1, b2, b3, b4, b5] es 2 0 = s20) := by show _ = _; unfold tms; rw [if_pos HC.out, ← hs20.out, hkp]
          have hr21 : Hid (tms per [b0, b1, b2, b3, b4, b5] es 2 1 = s21) := by show _ = _; unfold tms; rw [if_pos HC.out, ← hs21.out, hkp]
          have hr22 : Hid (tms per [b0, b1, b2, b3, b4, b5] es 2 2 = s22) := by show _ = _; unfold tms; rw [if_pos HC.out, ← hs22.out, hkp]
          clear hkp
          obtain ⟨z0, z1, z2, z3, z4, z5, z6, z7, z8⟩ := hout.c9
          obtain ⟨y0, y1, y2, y3, y4, y5, y6, y7, y8⟩ := hres.c9
          have f0 := hres.frozen 0
          have f1 := hres.frozen 1
          have f2 := hres.frozen 2
          have f3 := hres.frozen 3
          have f4 := hres.frozen 4
          have f5 := hres.frozen 5
          have f6 := hres.frozen 6
          have f7 := hres.frozen 7
          have f8 := hres.frozen 8
          go_wp2
          refine bodyPost_ret (ret_cell_tmp rfl rfl (load_33 (((((((((hres.set_ 0 _).set_ 1 _).set_ 2 _).set_ 3 _).set_ 4 _).set_ 5 _).set_ 6 _).set_ 7 _).set_ 8 _))) rfl ⟨?_, ?_⟩
          · rw [hr00.out, hr01.out, hr02.out, hr10.out, hr11.out, hr12.out, hr20.out, hr21.out, hr22.out, HC.out]
            rfl
          · exact (((((((((hb.setCell (Nat.le_succ _) _).setCell (Nat.le_succ _) _).setCell (Nat.le_succ _) _).setCell (Nat.le_succ _) _).setCell (Nat.le_succ _) _).setCell (Nat.le_succ _) _).setCell (Nat.le_succ _) _).setCell (Nat.le_succ _) _).setCell (Nat.le_succ _) _)

end Go.Proofs.Ytgnojdiecgfeaaa
