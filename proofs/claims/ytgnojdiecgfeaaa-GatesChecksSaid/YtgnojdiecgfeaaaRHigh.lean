/- The walk of the reference's High. -/
import Derived.Test.YtgnojdiecgfeaaaRShort
import Derived.RegionTactic
namespace Go.Proofs.Ytgnojdiecgfeaaa
open Go.RowKit

theorem cnt_step {per : Int} {on : List Bool} {es : List Ed} {leg : Nat} {neg : Bool} {k : Nat} {x : List Bool} (hx : (rowsF per on es)[k]? = some x) :
    cnt (fun t => highB leg neg (onAt on es t)) 0 (k + 1) = cnt (fun t => highB leg neg (onAt on es t)) 0 k + addD leg neg x 1 := by
  have h1 : x = onAt on es (k : Int) := by
    unfold rowsF at hx
    rw [List.getElem?_map] at hx
    cases h : (List.range per.toNat)[k]? with
    | none => rw [h] at hx; cases hx
    | some t =>
      rw [h] at hx
      have : t = k := by
        have := List.getElem?_eq_some_iff.1 h
        obtain ⟨h2, h3⟩ := this
        rw [List.getElem_range] at h3
        exact h3.symm
      subst this
      simpa using hx.symm
  subst h1
  simp only [cnt, Int.zero_add]
  rfl

set_option maxRecDepth 100000 in
set_option maxHeartbeats 3200000 in
theorem rhigh_walk (per : Int) (b0 b1 b2 b3 b4 b5 : Bool) (A : Option Addr) (n c : Nat) (es : List Ed) (i0 i1 i2 : Int) (w : World) (hE : Sl w w.heap.size 3 A (es.map Ed.row)) (hn : n = es.length) (hm : n ≤ 1000000) (hc : chk per es = 0) :
    Calls Try.prog 42 #[.agg #[.int .i64 per, .bool b0, .bool b1, .bool b2, .bool b3, .bool b4, .bool b5, .slice A n c], .agg #[.int .i64 i0, .int .i64 i1, .int .i64 i2]] w fun e w' =>
      e = .returned (.agg #[.int .i64 (highR per [b0, b1, b2, b3, b4, b5] es 0 (decide (i0 < 0))), .int .i64 (highR per [b0, b1, b2, b3, b4, b5] es 1 (decide (i1 < 0))), .int .i64 (highR per [b0, b1, b2, b3, b4, b5] es 2 (decide (i2 < 0)))]) ∧ Below w.heap.size w w' := by
  obtain ⟨hp1, hp2, hv⟩ := chk_zero hc
  have HN := Lib.hid hn
  clear hn hc
  obtain ⟨W, hW⟩ : ∃ W : World, W = (((w.alloc (.cells #[.int .i64 per, .bool b0, .bool b1, .bool b2, .bool b3, .bool b4, .bool b5, .slice A n c] 25)).alloc (.cells #[.int .i64 i0, .int .i64 i1, .int .i64 i2] 26)).alloc (.cells #[.int .i64 0, .int .i64 0, .int .i64 0] 26)).alloc (.cells #[.int .i64 0, .int .i64 0, .int .i64 0] 26) := ⟨_, rfl⟩
  have hWs : W.heap.size = w.heap.size + 4 := by rw [hW]; simp
  have hbW : Below w.heap.size w W := by
    rw [hW]
    exact ((((Below.refl _ _).alloc (Nat.le_refl _) _).alloc (by simp) _).alloc (by simp; omega) _).alloc (by simp; omega) _
  have g1 : Blk W (w.heap.size + 1) 26 #[.int .i64 i0, .int .i64 i1, .int .i64 i2] := by
    rw [hW]; exact ((Blk.new' (by simp)).alloc _).alloc _
  have g2 : Blk W (w.heap.size + 1 + 1) 26 #[.int .i64 0, .int .i64 0, .int .i64 0] := by
    rw [hW]; exact (Blk.new' (by simp)).alloc _
  have g3 : Blk W (w.heap.size + 1 + 1 + 1) 26 #[.int .i64 0, .int .i64 0, .int .i64 0] := by
    rw [hW]; exact Blk.new' (by simp)
  have hat := hide (at_walk per b0 b1 b2 b3 b4 b5 A n c es W ((hE.below hbW).more hbW.size) HN.out hm hv hp1 hp2)
  subst hW
  go_enter Try.func42, Try.ntmps42
  go_wp2_with fail
  refine (unhide hat).mono ?_
  rintro e w1 ⟨v, rfl, hown, hb1⟩
  have hbw1 := hbW.trans (hb1.mono (by omega))
  have g13 := g1.below hb1 (by omega)
  have g23 := g2.below hb1 (by omega)
  have g33 := g3.below hb1 (by omega)
  obtain ⟨rs, hrs⟩ : ∃ rs, rowsF per [b0, b1, b2, b3, b4, b5] es = rs := ⟨_, rfl⟩
  have hrows := at_rows (per := per) (es := es) (on := [b0, b1, b2, b3, b4, b5]) rfl
  have hmem := rows_mem (per := per) (es := es) (on := [b0, b1, b2, b3, b4, b5]) rfl
  have hlen := rows_len (per := per) (es := es) (on := [b0, b1, b2, b3, b4, b5])
  rw [hrs] at hown hrows hmem hlen
  rw [← hlen] at hown
  obtain ⟨A', c', rfl, hS, hAb⟩ := Sl.of_own hown hrows (by simp)
  have hl : rs.length ≤ 4096 := by omega
  have HM := Lib.hid hmem
  have HL := Lib.hid hlen
  have HRS := Lib.hid hrs
  have hAb3 : ∀ ad, A' = some ad → some ad.block ≠ some (w.heap.size + 1 + 1 + 1) := fun ad h h2 => by
    have := hAb ad h
    injection h2 with h2
    omega
  have HAB := Lib.hid hAb3
  clear hown hrows hmem hlen hrs hb1 hAb hAb3 hat g1 g2 g3
  go_wp2
  go_loopw [7] (fun i wr => ∃ (k : Nat) (s0 s1 s2 : Int), k ≤ rs.length ∧ i = .int .i64 k ∧ Hid (cnt (fun t => highB 0 (decide (i0 < 0)) (onAt [b0, b1, b2, b3, b4, b5] es t)) 0 k = s0) ∧ Hid (cnt (fun t => highB 1 (decide (i1 < 0)) (onAt [b0, b1, b2, b3, b4, b5] es t)) 0 k = s1) ∧ Hid (cnt (fun t => highB 2 (decide (i2 < 0)) (onAt [b0, b1, b2, b3, b4, b5] es t)) 0 k = s2) ∧
      Blk wr (w.heap.size + 1 + 1 + 1) 26 #[.int .i64 s0, .int .i64 s1, .int .i64 s2] ∧ w1.grownBy wr (some (w.heap.size + 1 + 1 + 1)) ∧ Below w.heap.size w wr) (fun i _ => rs.length - (intOf i).toNat)
  case atStart => exact ⟨0, 0, 0, 0, Nat.zero_le _, rfl, rfl, rfl, rfl, g33, World.grownBy.refl _ _, hbw1⟩
  case round =>
    obtain ⟨k, s0, s1, s2, hk, rfl, hs0, hs1, hs2, hout, hgr, hb⟩ := hrel
    by_cases hlt : k < rs.length
    · obtain ⟨on, he⟩ : ∃ e, rs[k]? = some e := ⟨_, List.getElem?_eq_getElem hlt⟩
      obtain ⟨c0, c1, c2, c3, c4, c5, rfl⟩ := six_of (HM.out _ (List.mem_of_getElem? he))
      have hbd0 := cnt_nonneg (fun t => highB 0 (decide (i0 < 0)) (onAt [b0, b1, b2, b3, b4, b5] es t)) 0 k
      have hbd1 := cnt_nonneg (fun t => highB 1 (decide (i1 < 0)) (onAt [b0, b1, b2, b3, b4, b5] es t)) 0 k
      have hbd2 := cnt_nonneg (fun t => highB 2 (decide (i2 < 0)) (onAt [b0, b1, b2, b3, b4, b5] es t)) 0 k
      rw [hs0.out] at hbd0
      rw [hs1.out] at hbd1
      rw [hs2.out] at hbd2
      obtain ⟨hq1, hq2⟩ := hbd0
      obtain ⟨hq3, hq4⟩ := hbd1
      obtain ⟨hq5, hq6⟩ := hbd2
      have hn0 : Hid (cnt (fun t => highB 0 (decide (i0 < 0)) (onAt [b0, b1, b2, b3, b4, b5] es t)) 0 (k + 1) = s0 + addD 0 (decide (i0 < 0)) [c0, c1, c2, c3, c4, c5] 1) := by show _ = _; rw [cnt_step (by rw [HRS.out]; exact he), hs0.out]
      have hn1 : Hid (cnt (fun t => highB 1 (decide (i1 < 0)) (onAt [b0, b1, b2, b3, b4, b5] es t)) 0 (k + 1) = s1 + addD 1 (decide (i1 < 0)) [c0, c1, c2, c3, c4, c5] 1) := by show _ = _; rw [cnt_step (by rw [HRS.out]; exact he), hs1.out]
      have hn2 : Hid (cnt (fun t => highB 2 (decide (i2 < 0)) (onAt [b0, b1, b2, b3, b4, b5] es t)) 0 (k + 1) = s2 + addD 2 (decide (i2 < 0)) [c0, c1, c2, c3, c4, c5] 1) := by show _ = _; rw [cnt_step (by rw [HRS.out]; exact he), hs2.out]
      have HE := Lib.hid he
      clear he
      obtain ⟨wo, rfl⟩ : ∃ wo : World, wo = wr := ⟨_, rfl⟩
      go_wp2
      go_loopw [8] (fun i w4 => ((i = .int .i64 0 ∧ Blk w4 (w.heap.size + 1 + 1 + 1) 26 #[.int .i64 s0, .int .i64 s1, .int .i64 s2]) ∨ (i = .int .i64 1 ∧ Blk w4 (w.heap.size + 1 + 1 + 1) 26 #[.int .i64 (s0 + addD 0 (decide (i0 < 0)) [c0, c1, c2, c3, c4, c5] 1), .int .i64 s1, .int .i64 s2]) ∨ (i = .int .i64 2 ∧ Blk w4 (w.heap.size + 1 + 1 + 1) 26 #[.int .i64 (s0 + addD 0 (decide (i0 < 0)) [c0, c1, c2, c3, c4, c5] 1), .int .i64 (s1 + addD 1 (decide (i1 < 0)) [c0, c1, c2, c3, c4, c5] 1), .int .i64 s2]) ∨ (i = .int .i64 3 ∧ Blk w4 (w.heap.size + 1 + 1 + 1) 26 #[.int .i64 (s0 + addD 0 (decide (i0 < 0)) [c0, c1, c2, c3, c4, c5] 1), .int .i64 (s1 + addD 1 (decide (i1 < 0)) [c0, c1, c2, c3, c4, c5] 1), .int .i64 (s2 + addD 2 (decide (i2 < 0)) [c0, c1, c2, c3, c4, c5] 1)])) ∧
          w1.grownBy w4 (some (w.heap.size + 1 + 1 + 1)) ∧ Below w.heap.size w w4) (fun i _ => 3 - (intOf i).toNat)
      case atStart => exact ⟨.inl ⟨rfl, hout⟩, hgr, hb⟩
      case round =>
          clear hout hgr hb
          obtain ⟨hd, hgr2, hbb⟩ := hrel
          obtain ⟨ad, p, rfl, hpa, hpb, e0, e1, e2, e3, e4, e5⟩ := (hS.grown hgr2 (Nat.le_refl _) HAB.out).six (k := k) (by rw [List.getElem?_map, HE.out]; rfl)
          obtain ⟨u0, u1, u2⟩ := (g13.grown hgr2 (by simp)).c3
          rcases hd with ⟨rfl, ho⟩ | ⟨rfl, ho⟩ | ⟨rfl, ho⟩ | ⟨rfl, ho⟩
          · have hx : (c0 = true) ∨ (c0 = false ∧ c1 = false ∧ i0 < 0) ∨ (c0 = false ∧ c1 = true) ∨ (c0 = false ∧ c1 = false ∧ ¬ i0 < 0) := by
              by_cases hx : i0 < 0 <;> cases c0 <;> cases c1 <;> simp [hx]
            obtain ⟨z0, z1, z2⟩ := ho.c3
            have fz := ho.frozen 0
            rcases hx with rfl | ⟨rfl, rfl, hneg⟩ | ⟨rfl, rfl⟩ | ⟨rfl, rfl, hneg⟩
            · have ha : addD 0 (decide (i0 < 0)) [true, c1, c2, c3, c4, c5] 1 = 1 := addD_yes (by simp [highB])
              have HA := Lib.hid ha
              clear ha
              go_wp2
              go_region
              all_goals go_wp2
              all_goals go_roundw
              case rel => exact ⟨.inr (.inl ⟨rfl, by rw [HA.out]; exact ho.set_ 0 _⟩), grown_drew (grown_setCell hgr2 (.inl rfl) _), (hbb.setCell (by simp; omega) _).drew⟩
              case measure => simp [intOf]
            · have ha : addD 0 (decide (i0 < 0)) [false, false, c2, c3, c4, c5] 1 = 1 := addD_yes (by simp [highB, hneg])
              have HA := Lib.hid ha
              clear ha
              go_wp2
              go_region
              all_goals go_wp2
              all_goals go_roundw
              case rel => exact ⟨.inr (.inl ⟨rfl, by rw [HA.out]; exact ho.set_ 0 _⟩), grown_drew (grown_setCell hgr2 (.inl rfl) _), (hbb.setCell (by simp; omega) _).drew⟩
              case measure => simp [intOf]
            · have ha : addD 0 (decide (i0 < 0)) [false, true, c2, c3, c4, c5] 1 = 0 := addD_no (by simp [highB])
              have HA := Lib.hid ha
              clear ha
              go_wp2
              go_region
              all_goals go_wp2
              all_goals go_roundw
              case rel => exact ⟨.inr (.inl ⟨rfl, by rw [HA.out]; simpa using ho.drew⟩), grown_drew hgr2, hbb.drew⟩
              case measure => simp [intOf]
            · have ha : addD 0 (decide (i0 < 0)) [false, false, c2, c3, c4, c5] 1 = 0 := addD_no (by simp [highB, hneg])
              have HA := Lib.hid ha
              clear ha
              go_wp2
              go_region
              all_goals go_wp2
              all_goals go_roundw
              case rel => exact ⟨.inr (.inl ⟨rfl, by rw [HA.out]; simpa using ho.drew⟩), grown_drew hgr2, hbb.drew⟩
              case measure => simp [intOf]
          · have hx : (c2 = true) ∨ (c2 = false ∧ c3 = false ∧ i1 < 0) ∨ (c2 = false ∧ c3 = true) ∨ (c2 = false ∧ c3 = false ∧ ¬ i1 < 0) := by
              by_cases hx : i1 < 0 <;> cases c2 <;> cases c3 <;> simp [hx]
            obtain ⟨z0, z1, z2⟩ := ho.c3
            have fz := ho.frozen 1
            rcases hx with rfl | ⟨rfl, rfl, hneg⟩ | ⟨rfl, rfl⟩ | ⟨rfl, rfl, hneg⟩
            · have ha : addD 1 (decide (i1 < 0)) [c0, c1, true, c3, c4, c5] 1 = 1 := addD_yes (by simp [highB])
              have HA := Lib.hid ha
              clear ha
              go_wp2
              go_region
              all_goals go_wp2
              all_goals go_roundw
              case rel => exact ⟨.inr (.inr (.inl ⟨rfl, by rw [HA.out]; exact ho.set_ 1 _⟩)), grown_drew (grown_setCell hgr2 (.inl rfl) _), (hbb.setCell (by simp; omega) _).drew⟩
              case measure => simp [intOf]
            · have ha : addD 1 (decide (i1 < 0)) [c0, c1, false, false, c4, c5] 1 = 1 := addD_yes (by simp [highB, hneg])
              have HA := Lib.hid ha
              clear ha
              go_wp2
              go_region
              all_goals go_wp2
              all_goals go_roundw
              case rel => exact ⟨.inr (.inr (.inl ⟨rfl, by rw [HA.out]; exact ho.set_ 1 _⟩)), grown_drew (grown_setCell hgr2 (.inl rfl) _), (hbb.setCell (by simp; omega) _).drew⟩
              case measure => simp [intOf]
            · have ha : addD 1 (decide (i1 < 0)) [c0, c1, false, true, c4, c5] 1 = 0 := addD_no (by simp [highB])
              have HA := Lib.hid ha
              clear ha
              go_wp2
              go_region
              all_goals go_wp2
              all_goals go_roundw
              case rel => exact ⟨.inr (.inr (.inl ⟨rfl, by rw [HA.out]; simpa using ho.drew⟩)), grown_drew hgr2, hbb.drew⟩
              case measure => simp [intOf]
            · have ha : addD 1 (decide (i1 < 0)) [c0, c1, false, false, c4, c5] 1 = 0 := addD_no (by simp [highB, hneg])
              have HA := Lib.hid ha
              clear ha
              go_wp2
              go_region
              all_goals go_wp2
              all_goals go_roundw
              case rel => exact ⟨.inr (.inr (.inl ⟨rfl, by rw [HA.out]; simpa using ho.drew⟩)), grown_drew hgr2, hbb.drew⟩
              case measure => simp [intOf]
          · have hx : (c4 = true) ∨ (c4 = false ∧ c5 = false ∧ i2 < 0) ∨ (c4 = false ∧ c5 = true) ∨ (c4 = false ∧ c5 = false ∧ ¬ i2 < 0) := by
              by_cases hx : i2 < 0 <;> cases c4 <;> cases c5 <;> simp [hx]
            obtain ⟨z0, z1, z2⟩ := ho.c3
            have fz := ho.frozen 2
            rcases hx with rfl | ⟨rfl, rfl, hneg⟩ | ⟨rfl, rfl⟩ | ⟨rfl, rfl, hneg⟩
            · have ha : addD 2 (decide (i2 < 0)) [c0, c1, c2, c3, true, c5] 1 = 1 := addD_yes (by simp [highB])
              have HA := Lib.hid ha
              clear ha
              go_wp2
              go_region
              all_goals go_wp2
              all_goals go_roundw
              case rel => exact ⟨.inr (.inr (.inr ⟨rfl, by rw [HA.out]; exact ho.set_ 2 _⟩)), grown_drew (grown_setCell hgr2 (.inl rfl) _), (hbb.setCell (by simp; omega) _).drew⟩
              case measure => simp [intOf]
            · have ha : addD 2 (decide (i2 < 0)) [c0, c1, c2, c3, false, false] 1 = 1 := addD_yes (by simp [highB, hneg])
              have HA := Lib.hid ha
              clear ha
              go_wp2
              go_region
              all_goals go_wp2
              all_goals go_roundw
              case rel => exact ⟨.inr (.inr (.inr ⟨rfl, by rw [HA.out]; exact ho.set_ 2 _⟩)), grown_drew (grown_setCell hgr2 (.inl rfl) _), (hbb.setCell (by simp; omega) _).drew⟩
              case measure => simp [intOf]
            · have ha : addD 2 (decide (i2 < 0)) [c0, c1, c2, c3, false, true] 1 = 0 := addD_no (by simp [highB])
              have HA := Lib.hid ha
              clear ha
              go_wp2
              go_region
              all_goals go_wp2
              all_goals go_roundw
              case rel => exact ⟨.inr (.inr (.inr ⟨rfl, by rw [HA.out]; simpa using ho.drew⟩)), grown_drew hgr2, hbb.drew⟩
              case measure => simp [intOf]
            · have ha : addD 2 (decide (i2 < 0)) [c0, c1, c2, c3, false, false] 1 = 0 := addD_no (by simp [highB, hneg])
              have HA := Lib.hid ha
              clear ha
              go_wp2
              go_region
              all_goals go_wp2
              all_goals go_roundw
              case rel => exact ⟨.inr (.inr (.inr ⟨rfl, by rw [HA.out]; simpa using ho.drew⟩)), grown_drew hgr2, hbb.drew⟩
              case measure => simp [intOf]
          · go_wp2
            go_roundw
            case rel => exact ⟨k + 1, _, _, _, by omega, by go_num, hn0, hn1, hn2, ho, hgr2, hbb⟩
            case measure => simp [intOf]; omega
    · have hks : k = per.toNat := by have := HL.out; omega
      have f2a := (g23.grown hgr (by simp))
      obtain ⟨y0, y1, y2⟩ := f2a.c3
      obtain ⟨z0, z1, z2⟩ := hout.c3
      have f0 := f2a.frozen 0
      have f1 := f2a.frozen 1
      have f2 := f2a.frozen 2
      have hr0 : Hid (highR per [b0, b1, b2, b3, b4, b5] es 0 (decide (i0 < 0)) = s0) := by show _ = _; unfold highR; rw [← hs0.out, hks]
      have hr1 : Hid (highR per [b0, b1, b2, b3, b4, b5] es 1 (decide (i1 < 0)) = s1) := by show _ = _; unfold highR; rw [← hs1.out, hks]
      have hr2 : Hid (highR per [b0, b1, b2, b3, b4, b5] es 2 (decide (i2 < 0)) = s2) := by show _ = _; unfold highR; rw [← hs2.out, hks]
      clear hks
      go_wp2
      refine bodyPost_ret (ret_cell rfl rfl (load_ints3 (((f2a.set_ 0 _).set_ 1 _).set_ 2 _))) rfl ⟨?_, ?_⟩
      · rw [hr0.out, hr1.out, hr2.out]
      · exact ((hb.setCell (by simp; omega) _).setCell (by simp; omega) _).setCell (by simp; omega) _

end Go.Proofs.Ytgnojdiecgfeaaa
