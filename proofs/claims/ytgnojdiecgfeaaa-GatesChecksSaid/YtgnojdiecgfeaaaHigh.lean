/- The walk of High: the high counts, or the error. -/
import Derived.Test.YtgnojdiecgfeaaaChk
import Derived.Test.YtgnojdiecgfeaaaShorted
import Derived.Test.YtgnojdiecgfeaaaPlainB
import Derived.Test.YtgnojdiecgfeaaaRes
import Derived.RegionTactic
namespace Go.Proofs.Ytgnojdiecgfeaaa
open Go.RowKit

theorem spans_rows {per : Int} {on : List Bool} {es : List Ed} (hv : Valid per es) (hp : 64 ≤ per) (h6 : on.length = 6) : ∀ r ∈ (spansOf per on es).map spanRow, r.length = 7 := by
  intro r hr
  obtain ⟨x, hx, rfl⟩ := List.mem_map.1 hr
  simp [spanRow, (spans_mem hv hp x hx).2, h6]

set_option maxRecDepth 100000 in
set_option maxHeartbeats 3200000 in
theorem high_walk (per : Int) (b0 b1 b2 b3 b4 b5 : Bool) (A : Option Addr) (n c : Nat) (es : List Ed) (i0 i1 i2 : Int) (w : World) (hE : Sl w w.heap.size 3 A (es.map Ed.row)) (hn : n = es.length) (hm : n ≤ 1000000) :
    Calls Try.prog 25 #[.agg #[.int .i64 per, .bool b0, .bool b1, .bool b2, .bool b3, .bool b4, .bool b5, .slice A n c], .agg #[.int .i64 i0, .int .i64 i1, .int .i64 i2]] w fun e w' =>
      e = .returned (.tuple #[.agg #[.int .i64 (hgh per [b0, b1, b2, b3, b4, b5] es 0 i0), .int .i64 (hgh per [b0, b1, b2, b3, b4, b5] es 1 i1), .int .i64 (hgh per [b0, b1, b2, b3, b4, b5] es 2 i2)], errV (err per [b0, b1, b2, b3, b4, b5] es)]) ∧ Below w.heap.size w w' := by
  obtain ⟨W, hW⟩ : ∃ W : World, W = (((w.alloc (.cells #[.int .i64 per, .bool b0, .bool b1, .bool b2, .bool b3, .bool b4, .bool b5, .slice A n c] 25)).alloc (.cells #[.int .i64 i0, .int .i64 i1, .int .i64 i2] 26)).alloc (.cells #[.int .i64 0, .int .i64 0, .int .i64 0] 26)).alloc (.cells #[.int .i64 0, .int .i64 0, .int .i64 0] 26) := ⟨_, rfl⟩
  have hWs : W.heap.size = w.heap.size + 4 := by rw [hW]; simp
  have hbW : Below w.heap.size w W := by
    rw [hW]
    exact ((((Below.refl _ _).alloc (Nat.le_refl _) _).alloc (by simp) _).alloc (by simp; omega) _).alloc (by simp; omega) _
  have g0 : Blk W w.heap.size 25 #[.int .i64 per, .bool b0, .bool b1, .bool b2, .bool b3, .bool b4, .bool b5, .slice A n c] := by
    rw [hW]; exact (((Blk.new w _ _).alloc _).alloc _).alloc _
  have g1 : Blk W (w.heap.size + 1) 26 #[.int .i64 i0, .int .i64 i1, .int .i64 i2] := by
    rw [hW]; exact ((Blk.new' (by simp)).alloc _).alloc _
  have g2 : Blk W (w.heap.size + 1 + 1) 26 #[.int .i64 0, .int .i64 0, .int .i64 0] := by
    rw [hW]; exact (Blk.new' (by simp)).alloc _
  have g3 : Blk W (w.heap.size + 1 + 1 + 1) 26 #[.int .i64 0, .int .i64 0, .int .i64 0] := by
    rw [hW]; exact Blk.new' (by simp)
  have hck := chk_walk per b0 b1 b2 b3 b4 b5 A n c es W ((hE.below hbW).more (by omega)) hn hm
  by_cases hc0 : chk per es = 0
  case neg =>
    have hck2 : Calls Try.prog 28 #[.agg #[.int .i64 per, .bool b0, .bool b1, .bool b2, .bool b3, .bool b4, .bool b5, .slice A n c]] W fun e w' => e = .returned (.iface 95 (.int .i64 (chk per es))) ∧ Below W.heap.size W w' := by
      rw [errV_ne hc0] at hck; exact hck
    have HC := hide hck2
    have H0 := Lib.hid hc0
    have HN := Lib.hid hn
    clear hck hck2 hc0 hn
    subst hW
    go_enter Try.func25, Try.ntmps25
    go_wp2_with fail
    refine (unhide HC).mono ?_
    rintro e w1 ⟨rfl, hb1⟩
    obtain ⟨a0, a1, a2⟩ := (g2.below hb1 (by omega)).c3
    obtain ⟨d0, d1, d2⟩ := (g3.below hb1 (by omega)).c3
    have f0 := (g2.below hb1 (by omega)).frozen 0
    have f1 := (g2.below hb1 (by omega)).frozen 1
    have f2 := (g2.below hb1 (by omega)).frozen 2
    go_wp2
    refine bodyPost_ret (ret_cell_tmp rfl rfl (load_ints3 ((((g2.below hb1 (by omega)).set_ 0 _).set_ 1 _).set_ 2 _))) rfl ⟨?_, ?_⟩
    · rw [hgh_err (by rw [err_chk H0.out]; exact H0.out), hgh_err (by rw [err_chk H0.out]; exact H0.out), hgh_err (by rw [err_chk H0.out]; exact H0.out), err_chk H0.out, errV_ne H0.out]
      rfl
    · exact (((hbW.trans (hb1.mono (by omega))).setCell (by simp; omega) _).setCell (by simp; omega) _).setCell (by simp; omega) _
  case pos =>
    obtain ⟨hp1, hp2, hv⟩ := chk_zero hc0
    have hck2 : Calls Try.prog 28 #[.agg #[.int .i64 per, .bool b0, .bool b1, .bool b2, .bool b3, .bool b4, .bool b5, .slice A n c]] W fun e w' => e = .returned .nilIface ∧ Below W.heap.size W w' := by
      rw [hc0, errV_zero] at hck; exact hck
    have HC := hide hck2
    have H0 := Lib.hid hc0
    have HN := Lib.hid hn
    clear hck hck2 hc0 hn
    subst hW
    go_enter Try.func25, Try.ntmps25
    go_wp2_with fail
    refine (unhide HC).mono ?_
    rintro e w1 ⟨rfl, hb1⟩
    have hbw1 := hbW.trans (hb1.mono (by omega))
    have g01 := g0.below hb1 (by omega)
    have g11 := g1.below hb1 (by omega)
    have g21 := g2.below hb1 (by omega)
    have g31 := g3.below hb1 (by omega)
    have hs1 := hb1.size
    rw [hWs] at hs1
    clear g0 g1 g2 g3 hb1 HC
    obtain ⟨x0, x1, x2, x3, x4, x5, x6, x7⟩ := g01.c8
    obtain ⟨sp, hsp⟩ : ∃ sp, spansOf per [b0, b1, b2, b3, b4, b5] es = sp := ⟨_, rfl⟩
    have hrows := spans_rows (on := [b0, b1, b2, b3, b4, b5]) hv hp1 rfl
    have hmem := spans_mem (on := [b0, b1, b2, b3, b4, b5]) hv hp1
    have hsw := spans_walk per b0 b1 b2 b3 b4 b5 A n c es w1 ((hE.below hbw1).more hbw1.size) HN.out hm hv hp1 hp2
    rw [hsp] at hrows hmem hsw
    have HSW := hide hsw
    have HSP := Lib.hid hsp
    have HR := Lib.hid hrows
    have HM := Lib.hid hmem
    clear hsw hsp hrows hmem
    go_wp2_with fail
    refine (unhide HSW).mono ?_
    rintro e w2 ⟨v, rfl, hown, hb2⟩
    obtain ⟨A', c', rfl, hS, hAb⟩ := Sl.of_own hown HR.out (by simp)
    have hsplen : sp.length ≤ 1000001 := by
      have h1 := spans_length (per := per) (on := [b0, b1, b2, b3, b4, b5]) (es := es)
      rw [HSP.out] at h1
      have := HN.out
      omega
    have hbw2 := hbw1.trans (hb2.mono hbw1.size)
    have g12 := g11.below hb2 (by omega)
    have g22 := g21.below hb2 (by omega)
    have g32 := g31.below hb2 (by omega)
    have hs2 := hb2.size
    clear hown HSW g11 g21 g31 x0 x1 x2 x3 x4 x5 x6 x7
    have hshw := shorted_walk A' sp.length c' sp w2 hS rfl hsplen (fun x hx => (HM.out x hx).2)
    obtain ⟨sb, hsb⟩ : ∃ sb, (sp.any fun x => shortB x.2) = sb := ⟨_, rfl⟩
    rw [hsb] at hshw
    have hserr : shortR per [b0, b1, b2, b3, b4, b5] es = sb := by rw [← short_eq H0.out, HSP.out]; exact hsb
    have HSE := Lib.hid hserr
    have HSH := hide hshw
    have ix0 := index3_0 (.int .i64 i0) (.int .i64 i1) (.int .i64 i2)
    have ix1 := index3_1 (.int .i64 i0) (.int .i64 i1) (.int .i64 i2)
    have ix2 := index3_2 (.int .i64 i0) (.int .i64 i1) (.int .i64 i2)
    clear hshw hsb hserr
    go_wp2_with fail
    refine (unhide HSH).mono ?_
    rintro e w3 ⟨rfl, hb3⟩
    have hbw3 := hbw2.trans (hb3.mono (by omega))
    have g03 : Blk w3 w.heap.size 25 #[.int .i64 per, .bool b0, .bool b1, .bool b2, .bool b3, .bool b4, .bool b5, .slice A n c] := (g01.below hb2 (by omega)).below hb3 (by omega)
    have g13 := g12.below hb3 (by omega)
    have g23 := g22.below hb3 (by omega)
    have g33 := g32.below hb3 (by omega)
    have hs3 := hb3.size
    have hS3 := (hS.below hb3).more hs3
    clear HSH g12 g22 g32 hS hb2 hb3 g01
    obtain ⟨y0, y1, y2⟩ := g23.c3
    obtain ⟨z0, z1, z2⟩ := g33.c3
    have f0 := g23.frozen 0
    have f1 := g23.frozen 1
    have f2 := g23.frozen 2
    cases sb
    case true =>
      have herr : err per [b0, b1, b2, b3, b4, b5] es = 15 := err_short H0.out HSE.out
      have HER := Lib.hid herr
      clear herr
      go_wp2
      refine bodyPost_ret (ret_cell_tmp rfl rfl (load_ints3 (((g23.set_ 0 _).set_ 1 _).set_ 2 _))) rfl ⟨?_, ?_⟩
      · rw [hgh_err (by rw [HER.out]; decide), hgh_err (by rw [HER.out]; decide), hgh_err (by rw [HER.out]; decide), HER.out]
        rfl
      · exact ((hbw3.setCell (by simp; omega) _).setCell (by simp; omega) _).setCell (by simp; omega) _
    case false =>
      have herr : err per [b0, b1, b2, b3, b4, b5] es = 0 := err_zero H0.out HSE.out
      have HER := Lib.hid herr
      clear herr y0 y1 y2 z0 z1 z2 f0 f1 f2
      have hAb3 : ∀ ad, A' = some ad → some ad.block ≠ some (w.heap.size + 1 + 1 + 1) := fun ad h h2 => by
        have := hAb ad h
        injection h2 with h2
        omega
      have HAB := Lib.hid hAb3
      clear hAb hAb3
      go_wp2
      go_loopw [27] (fun i wr => ∃ (k : Nat) (s0 s1 s2 : Int), k ≤ sp.length ∧ i = .int .i64 k ∧ Hid (sumF (highB 0 (decide (i0 < 0))) (sp.take k) = s0) ∧ Hid (sumF (highB 1 (decide (i1 < 0))) (sp.take k) = s1) ∧ Hid (sumF (highB 2 (decide (i2 < 0))) (sp.take k) = s2) ∧
          Blk wr (w.heap.size + 1 + 1 + 1) 26 #[.int .i64 s0, .int .i64 s1, .int .i64 s2] ∧ w3.grownBy wr (some (w.heap.size + 1 + 1 + 1)) ∧ Below w.heap.size w wr) (fun i _ => sp.length - (intOf i).toNat)
      case atStart => exact ⟨0, 0, 0, 0, Nat.zero_le _, rfl, rfl, rfl, rfl, g33, World.grownBy.refl _ _, hbw3⟩
      case round =>
        obtain ⟨k, s0, s1, s2, hk, rfl, hs0, hs1, hs2, hout, hgr, hb⟩ := hrel
        obtain ⟨z0, z1, z2⟩ := hout.c3
        have hsz : w.heap.size + 1 + 1 + 1 < wr.heap.size := hout.lt
        have hsz1 : w.heap.size + 1 < wr.heap.size := by omega
        have g1r := g13.grown hgr (by simp)
        obtain ⟨u0, u1, u2⟩ := g1r.c3
        by_cases hlt : k < sp.length
        · obtain ⟨⟨q, on⟩, he⟩ : ∃ e, sp[k]? = some e := ⟨_, List.getElem?_eq_getElem hlt⟩
          obtain ⟨c0, c1, c2, c3, c4, c5, hon⟩ := six_of (HM.out _ (List.mem_of_getElem? he)).2
          simp only at hon
          subst hon
          have hSr := hS3.grown hgr (Nat.le_refl _) HAB.out
          obtain ⟨ad, p, rfl, hpa, hpb, e0, e1, e2, e3, e4, e5, e6⟩ := hSr.seven (k := k) (by rw [List.getElem?_map, he]; rfl)
          have hpb1 : p.block < wr.heap.size := by have := hgr.size; omega
          have hsp' := HSP.out
          have hbd0 := sum_bd (on := [b0, b1, b2, b3, b4, b5]) H0.out (highB 0 (decide (i0 < 0))) (k := k) (x := (q, [c0, c1, c2, c3, c4, c5])) (by rw [hsp']; exact he)
          have hbd1 := sum_bd (on := [b0, b1, b2, b3, b4, b5]) H0.out (highB 1 (decide (i1 < 0))) (k := k) (x := (q, [c0, c1, c2, c3, c4, c5])) (by rw [hsp']; exact he)
          have hbd2 := sum_bd (on := [b0, b1, b2, b3, b4, b5]) H0.out (highB 2 (decide (i2 < 0))) (k := k) (x := (q, [c0, c1, c2, c3, c4, c5])) (by rw [hsp']; exact he)
          rw [hsp', hs0.out] at hbd0
          rw [hsp', hs1.out] at hbd1
          rw [hsp', hs2.out] at hbd2
          simp only at hbd0 hbd1 hbd2
          obtain ⟨hq0, hq1, hq2⟩ := hbd0
          obtain ⟨_, hq3, hq4⟩ := hbd1
          obtain ⟨_, hq5, hq6⟩ := hbd2
          have hn0 : Hid (sumF (highB 0 (decide (i0 < 0))) (sp.take (k + 1)) = s0 + addD 0 (decide (i0 < 0)) [c0, c1, c2, c3, c4, c5] q) := by show _ = _; rw [sumF_add he, hs0.out]
          have hn1 : Hid (sumF (highB 1 (decide (i1 < 0))) (sp.take (k + 1)) = s1 + addD 1 (decide (i1 < 0)) [c0, c1, c2, c3, c4, c5] q) := by show _ = _; rw [sumF_add he, hs1.out]
          have hn2 : Hid (sumF (highB 2 (decide (i2 < 0))) (sp.take (k + 1)) = s2 + addD 2 (decide (i2 < 0)) [c0, c1, c2, c3, c4, c5] q) := by show _ = _; rw [sumF_add he, hs2.out]
          clear hsp' he hSr
          obtain ⟨wo, rfl⟩ : ∃ wo : World, wo = wr := ⟨_, rfl⟩
          go_wp2
          clear e0 e1 e2 e3 e4 e5 e6 z0 z1 z2 u0 u1 u2
          go_loopw [32] (fun i w4 => ((i = .int .i64 0 ∧ Blk w4 (w.heap.size + 1 + 1 + 1) 26 #[.int .i64 s0, .int .i64 s1, .int .i64 s2]) ∨ (i = .int .i64 1 ∧ Blk w4 (w.heap.size + 1 + 1 + 1) 26 #[.int .i64 (s0 + addD 0 (decide (i0 < 0)) [c0, c1, c2, c3, c4, c5] q), .int .i64 s1, .int .i64 s2]) ∨ (i = .int .i64 2 ∧ Blk w4 (w.heap.size + 1 + 1 + 1) 26 #[.int .i64 (s0 + addD 0 (decide (i0 < 0)) [c0, c1, c2, c3, c4, c5] q), .int .i64 (s1 + addD 1 (decide (i1 < 0)) [c0, c1, c2, c3, c4, c5] q), .int .i64 s2]) ∨ (i = .int .i64 3 ∧ Blk w4 (w.heap.size + 1 + 1 + 1) 26 #[.int .i64 (s0 + addD 0 (decide (i0 < 0)) [c0, c1, c2, c3, c4, c5] q), .int .i64 (s1 + addD 1 (decide (i1 < 0)) [c0, c1, c2, c3, c4, c5] q), .int .i64 (s2 + addD 2 (decide (i2 < 0)) [c0, c1, c2, c3, c4, c5] q)])) ∧
              Blk w4 wo.heap.size 101 #[.int .i64 q, .bool c0, .bool c1, .bool c2, .bool c3, .bool c4, .bool c5] ∧ w3.grownBy w4 (some (w.heap.size + 1 + 1 + 1)) ∧ Below w.heap.size w w4) (fun i _ => 3 - (intOf i).toNat)
          case atStart => exact ⟨.inl ⟨rfl, hout.alloc _⟩, Blk.new _ _ _, grown_alloc hgr _, hb.alloc (by omega) _⟩
          case round =>
          clear hout hgr hb
          obtain ⟨hd, hspan, hgr2, hbb⟩ := hrel
          rcases hd with ⟨rfl, ho⟩ | ⟨rfl, ho⟩ | ⟨rfl, ho⟩ | ⟨rfl, ho⟩
          · have hx : (c0 = true) ∨ (c0 = false ∧ c1 = false ∧ i0 < 0) ∨ (c0 = false ∧ c1 = true) ∨ (c0 = false ∧ c1 = false ∧ ¬ i0 < 0) := by
              by_cases hx : i0 < 0 <;> cases c0 <;> cases c1 <;> simp [hx]
            obtain ⟨z0, z1, z2⟩ := ho.c3
            obtain ⟨e0, e1, e2, e3, e4, e5, e6⟩ := hspan.c7
            have fz := ho.frozen 0
            rcases hx with rfl | ⟨rfl, rfl, hneg⟩ | ⟨rfl, rfl⟩ | ⟨rfl, rfl, hneg⟩
            · have ha : addD 0 (decide (i0 < 0)) [true, c1, c2, c3, c4, c5] q = q := addD_yes (by simp [highB])
              have HA := Lib.hid ha
              clear ha
              go_wp2
              go_region
              all_goals go_wp2
              all_goals go_roundw
              case rel => exact ⟨.inr (.inl ⟨rfl, by rw [HA.out]; exact ho.set_ 0 _⟩), hspan.far (by simp; omega) _, grown_drew (grown_setCell hgr2 (.inl rfl) _), (hbb.setCell (by simp; omega) _).drew⟩
              case measure => simp [intOf]
            · have ha : addD 0 (decide (i0 < 0)) [false, false, c2, c3, c4, c5] q = q := addD_yes (by simp [highB, hneg])
              have HA := Lib.hid ha
              clear ha
              go_wp2
              go_region
              all_goals go_wp2
              all_goals go_roundw
              case rel => exact ⟨.inr (.inl ⟨rfl, by rw [HA.out]; exact ho.set_ 0 _⟩), hspan.far (by simp; omega) _, grown_drew (grown_setCell hgr2 (.inl rfl) _), (hbb.setCell (by simp; omega) _).drew⟩
              case measure => simp [intOf]
            · have ha : addD 0 (decide (i0 < 0)) [false, true, c2, c3, c4, c5] q = 0 := addD_no (by simp [highB])
              have HA := Lib.hid ha
              clear ha
              go_wp2
              go_roundw
              case rel => exact ⟨.inr (.inl ⟨rfl, by rw [HA.out]; simpa using ho⟩), hspan, hgr2, hbb⟩
              case measure => simp [intOf]
            · have ha : addD 0 (decide (i0 < 0)) [false, false, c2, c3, c4, c5] q = 0 := addD_no (by simp [highB, hneg])
              have HA := Lib.hid ha
              clear ha
              go_wp2
              go_roundw
              case rel => exact ⟨.inr (.inl ⟨rfl, by rw [HA.out]; simpa using ho⟩), hspan, hgr2, hbb⟩
              case measure => simp [intOf]
          · have hx : (c2 = true) ∨ (c2 = false ∧ c3 = false ∧ i1 < 0) ∨ (c2 = false ∧ c3 = true) ∨ (c2 = false ∧ c3 = false ∧ ¬ i1 < 0) := by
              by_cases hx : i1 < 0 <;> cases c2 <;> cases c3 <;> simp [hx]
            obtain ⟨z0, z1, z2⟩ := ho.c3
            obtain ⟨e0, e1, e2, e3, e4, e5, e6⟩ := hspan.c7
            have fz := ho.frozen 1
            rcases hx with rfl | ⟨rfl, rfl, hneg⟩ | ⟨rfl, rfl⟩ | ⟨rfl, rfl, hneg⟩
            · have ha : addD 1 (decide (i1 < 0)) [c0, c1, true, c3, c4, c5] q = q := addD_yes (by simp [highB])
              have HA := Lib.hid ha
              clear ha
              go_wp2
              go_region
              all_goals go_wp2
              all_goals go_roundw
              case rel => exact ⟨.inr (.inr (.inl ⟨rfl, by rw [HA.out]; exact ho.set_ 1 _⟩)), hspan.far (by simp; omega) _, grown_drew (grown_setCell hgr2 (.inl rfl) _), (hbb.setCell (by simp; omega) _).drew⟩
              case measure => simp [intOf]
            · have ha : addD 1 (decide (i1 < 0)) [c0, c1, false, false, c4, c5] q = q := addD_yes (by simp [highB, hneg])
              have HA := Lib.hid ha
              clear ha
              go_wp2
              go_region
              all_goals go_wp2
              all_goals go_roundw
              case rel => exact ⟨.inr (.inr (.inl ⟨rfl, by rw [HA.out]; exact ho.set_ 1 _⟩)), hspan.far (by simp; omega) _, grown_drew (grown_setCell hgr2 (.inl rfl) _), (hbb.setCell (by simp; omega) _).drew⟩
              case measure => simp [intOf]
            · have ha : addD 1 (decide (i1 < 0)) [c0, c1, false, true, c4, c5] q = 0 := addD_no (by simp [highB])
              have HA := Lib.hid ha
              clear ha
              go_wp2
              go_roundw
              case rel => exact ⟨.inr (.inr (.inl ⟨rfl, by rw [HA.out]; simpa using ho⟩)), hspan, hgr2, hbb⟩
              case measure => simp [intOf]
            · have ha : addD 1 (decide (i1 < 0)) [c0, c1, false, false, c4, c5] q = 0 := addD_no (by simp [highB, hneg])
              have HA := Lib.hid ha
              clear ha
              go_wp2
              go_roundw
              case rel => exact ⟨.inr (.inr (.inl ⟨rfl, by rw [HA.out]; simpa using ho⟩)), hspan, hgr2, hbb⟩
              case measure => simp [intOf]
          · have hx : (c4 = true) ∨ (c4 = false ∧ c5 = false ∧ i2 < 0) ∨ (c4 = false ∧ c5 = true) ∨ (c4 = false ∧ c5 = false ∧ ¬ i2 < 0) := by
              by_cases hx : i2 < 0 <;> cases c4 <;> cases c5 <;> simp [hx]
            obtain ⟨z0, z1, z2⟩ := ho.c3
            obtain ⟨e0, e1, e2, e3, e4, e5, e6⟩ := hspan.c7
            have fz := ho.frozen 2
            rcases hx with rfl | ⟨rfl, rfl, hneg⟩ | ⟨rfl, rfl⟩ | ⟨rfl, rfl, hneg⟩
            · have ha : addD 2 (decide (i2 < 0)) [c0, c1, c2, c3, true, c5] q = q := addD_yes (by simp [highB])
              have HA := Lib.hid ha
              clear ha
              go_wp2
              go_region
              all_goals go_wp2
              all_goals go_roundw
              case rel => exact ⟨.inr (.inr (.inr ⟨rfl, by rw [HA.out]; exact ho.set_ 2 _⟩)), hspan.far (by simp; omega) _, grown_drew (grown_setCell hgr2 (.inl rfl) _), (hbb.setCell (by simp; omega) _).drew⟩
              case measure => simp [intOf]
            · have ha : addD 2 (decide (i2 < 0)) [c0, c1, c2, c3, false, false] q = q := addD_yes (by simp [highB, hneg])
              have HA := Lib.hid ha
              clear ha
              go_wp2
              go_region
              all_goals go_wp2
              all_goals go_roundw
              case rel => exact ⟨.inr (.inr (.inr ⟨rfl, by rw [HA.out]; exact ho.set_ 2 _⟩)), hspan.far (by simp; omega) _, grown_drew (grown_setCell hgr2 (.inl rfl) _), (hbb.setCell (by simp; omega) _).drew⟩
              case measure => simp [intOf]
            · have ha : addD 2 (decide (i2 < 0)) [c0, c1, c2, c3, false, true] q = 0 := addD_no (by simp [highB])
              have HA := Lib.hid ha
              clear ha
              go_wp2
              go_roundw
              case rel => exact ⟨.inr (.inr (.inr ⟨rfl, by rw [HA.out]; simpa using ho⟩)), hspan, hgr2, hbb⟩
              case measure => simp [intOf]
            · have ha : addD 2 (decide (i2 < 0)) [c0, c1, c2, c3, false, false] q = 0 := addD_no (by simp [highB, hneg])
              have HA := Lib.hid ha
              clear ha
              go_wp2
              go_roundw
              case rel => exact ⟨.inr (.inr (.inr ⟨rfl, by rw [HA.out]; simpa using ho⟩)), hspan, hgr2, hbb⟩
              case measure => simp [intOf]
          · go_wp2
            go_roundw
            case rel => exact ⟨k + 1, _, _, _, by omega, by go_num, hn0, hn1, hn2, ho, hgr2, hbb⟩
            case measure => simp [intOf]; omega
        · have hks : k = sp.length := by omega
          have f2a := (g23.grown hgr (by simp))
          obtain ⟨y0, y1, y2⟩ := f2a.c3
          have f0 := f2a.frozen 0
          have f1 := f2a.frozen 1
          have f2 := f2a.frozen 2
          have hr0 : Hid (hgh per [b0, b1, b2, b3, b4, b5] es 0 i0 = s0) := by show _ = _; rw [hgh_ok HER.out, HSP.out, ← hs0.out, hks, List.take_length]
          have hr1 : Hid (hgh per [b0, b1, b2, b3, b4, b5] es 1 i1 = s1) := by show _ = _; rw [hgh_ok HER.out, HSP.out, ← hs1.out, hks, List.take_length]
          have hr2 : Hid (hgh per [b0, b1, b2, b3, b4, b5] es 2 i2 = s2) := by show _ = _; rw [hgh_ok HER.out, HSP.out, ← hs2.out, hks, List.take_length]
          clear hks
          go_wp2
          refine bodyPost_ret (ret_cell_tmp rfl rfl (load_ints3 (((f2a.set_ 0 _).set_ 1 _).set_ 2 _))) rfl ⟨?_, ?_⟩
          · rw [hr0.out, hr1.out, hr2.out, HER.out]
            rfl
          · exact ((hb.setCell (by simp; omega) _).setCell (by simp; omega) _).setCell (by simp; omega) _

end Go.Proofs.Ytgnojdiecgfeaaa
