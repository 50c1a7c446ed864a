/- awake. -/
import Derived.Test.YtpfkiohknpeifaaGreatPExam
import Derived.Deep.CutRange
import Derived.ChangeKeysEq
namespace Go.Proofs.YtpfkiohknpeifaaGreat
open Go.RowKit
theorem infoInt3 : (Tryz.prog.info? 3).map (fun i => (i.zero, i.size, i.bytes)) = some (some (.int .i64 0), 1, 8) := by kernel_rfl
theorem cellsInt3 : Tryz.prog.cellsOf 3 = 1 := by kernel_rfl
theorem eq_int3 (a b c x y z : Int) (w : World) : (Op.equalIn 10000 67 (.agg #[.int .i64 a, .int .i64 b, .int .i64 c]) (.agg #[.int .i64 x, .int .i64 y, .int .i64 z])).run Tryz.prog w = .ok (a == x && b == y && c == z) w := by
  obtain ⟨i0, hi, hz0, hz1, hz2⟩ := info_of infoInt3
  rw [show (10000 : Nat) = 9999 + 1 from rfl, run_equalIn_array _ 9999 _ _ Tryz.underlying67 hi, cellsInt3]
  have h1 := fun (x y : Int) (w : World) => run_equalIn_int (P := Tryz.prog) w 9998 3 .i64 .i64 x y Tryz.underlying3
  simp only [Nat.reduceAdd] at h1
  have hr : List.range 3 = [0, 1, 2] := by decide
  rw [hr]
  by_cases e0 : a = x <;> by_cases e1 : b = y <;> by_cases e2 : c = z <;> simp [Op.eqItems, go_sem, h1, e0, e1, e2]
theorem ex_walk' (w : World) : Calls Tryz.prog 20 #[] w fun e w' => (∃ X : Pa, e = .returned (.agg #[.int .i64 exP.m.r, .int .i64 exP.m.m, .slice X.A1 X.n1 X.c1, .slice X.A2 X.n2 X.c2, .slice X.A3 X.n3 X.c3, .slice X.A4 X.n4 X.c4, .int .i64 exP.m.p, .int .i64 exP.m.s, .int .i64 exP.m.f, .int .i64 exP.l.num, .int .i64 exP.l.den, .int .i64 exP.l.sup, .int .i64 exP.l.fed, .int .i64 exP.l.ohm, .int .i64 exP.l.bon, .int .i64 exP.l.boff, .int .i64 exP.l.bohm, .int .i64 exP.g, .int .i64 exP.d, .int .i64 exP.y, .slice X.B1 X.m1 X.d1, .slice X.B2 X.m2 X.d2, .slice X.B3 X.m3 X.d3, .int .i64 exP.wi, .int .i64 exP.sw]) ∧ Py w' w'.heap.size exP X) ∧ Below w.heap.size w w' :=
  (ex_walk w).mono fun _ _ ⟨X, h1, h2, h3⟩ => ⟨⟨X, h1, h2⟩, h3⟩
theorem ex_start (X : Pa) (w : World) (L : Py w w.heap.size exP X) : Calls Tryz.prog 9 #[.agg #[.int .i64 exP.m.r, .int .i64 exP.m.m, .slice X.A1 X.n1 X.c1, .slice X.A2 X.n2 X.c2, .slice X.A3 X.n3 X.c3, .slice X.A4 X.n4 X.c4, .int .i64 exP.m.p, .int .i64 exP.m.s, .int .i64 exP.m.f, .int .i64 exP.l.num, .int .i64 exP.l.den, .int .i64 exP.l.sup, .int .i64 exP.l.fed, .int .i64 exP.l.ohm, .int .i64 exP.l.bon, .int .i64 exP.l.boff, .int .i64 exP.l.bohm, .int .i64 exP.g, .int .i64 exP.d, .int .i64 exP.y, .slice X.B1 X.m1 X.d1, .slice X.B2 X.m2 X.d2, .slice X.B3 X.m3 X.d3, .int .i64 exP.wi, .int .i64 exP.sw], .int .i64 25000] w fun e w' => (∃ A, e = .returned (.tuple #[.agg #[.int .i64 50000, .int .i64 0, .int .i64 24000, .bool false, .int .i64 0, .int .i64 0, .slice A 3 3, .int .i64 0], .nilIface]) ∧ Sl w' w'.heap.size 1 A (rows exS.h) ∧ (∀ ad, A = some ad → w.heap.size ≤ ad.block)) ∧ Below w.heap.size w w' := by
  have h := pstartM exP X 25000 w L ex_code
  rw [ex_warm] at h
  exact h
theorem ex_stp (X : Pa) (A : Option Addr) (w : World) (L : Py w w.heap.size exP X) (S : Sl w w.heap.size 1 A (rows exS.h)) : Calls Tryz.prog 14 #[.agg #[.int .i64 exP.m.r, .int .i64 exP.m.m, .slice X.A1 X.n1 X.c1, .slice X.A2 X.n2 X.c2, .slice X.A3 X.n3 X.c3, .slice X.A4 X.n4 X.c4, .int .i64 exP.m.p, .int .i64 exP.m.s, .int .i64 exP.m.f, .int .i64 exP.l.num, .int .i64 exP.l.den, .int .i64 exP.l.sup, .int .i64 exP.l.fed, .int .i64 exP.l.ohm, .int .i64 exP.l.bon, .int .i64 exP.l.boff, .int .i64 exP.l.bohm, .int .i64 exP.g, .int .i64 exP.d, .int .i64 exP.y, .slice X.B1 X.m1 X.d1, .slice X.B2 X.m2 X.d2, .slice X.B3 X.m3 X.d3, .int .i64 exP.wi, .int .i64 exP.sw], .agg #[.int .i64 50000, .int .i64 0, .int .i64 24000, .bool false, .int .i64 0, .int .i64 0, .slice A 3 3, .int .i64 0], .agg #[.int .i64 100, .bool true, .bool false, .bool false, .bool true, .bool false, .bool true, .slice none 0 0, .int .i64 0, .int .i64 25000, .bool false, .bool false, .bool false, .bool false, .bool false, .bool false, .bool false, .bool false]] w fun e w' => (∃ A' c, e = .returned (.tuple #[.agg #[.int .i64 66000, .int .i64 0, .int .i64 24000, .bool false, .int .i64 0, .int .i64 0, .slice A' 3 c, .int .i64 0], .nilIface]) ∧ Sl w' w'.heap.size 1 A' (rows exT.h) ∧ (∀ ad, A' = some ad → w.heap.size ≤ ad.block)) ∧ Below w.heap.size w w' := by
  have h := pstepM_ok exP X exS A 3 3 exZ none 0 0 w L S rfl (Sl.nil _ _ _ _) rfl (by decide) ex_code rfl ex_chk ex_shrt
  rw [ex_step] at h
  exact h
theorem ex_out (X : Pa) (A : Option Addr) (c0 : Nat) (w : World) (L : Py w w.heap.size exP X) (S : Sl w w.heap.size 1 A (rows exT.h)) : Calls Tryz.prog 17 #[.agg #[.int .i64 exP.m.r, .int .i64 exP.m.m, .slice X.A1 X.n1 X.c1, .slice X.A2 X.n2 X.c2, .slice X.A3 X.n3 X.c3, .slice X.A4 X.n4 X.c4, .int .i64 exP.m.p, .int .i64 exP.m.s, .int .i64 exP.m.f, .int .i64 exP.l.num, .int .i64 exP.l.den, .int .i64 exP.l.sup, .int .i64 exP.l.fed, .int .i64 exP.l.ohm, .int .i64 exP.l.bon, .int .i64 exP.l.boff, .int .i64 exP.l.bohm, .int .i64 exP.g, .int .i64 exP.d, .int .i64 exP.y, .slice X.B1 X.m1 X.d1, .slice X.B2 X.m2 X.d2, .slice X.B3 X.m3 X.d3, .int .i64 exP.wi, .int .i64 exP.sw], .agg #[.int .i64 66000, .int .i64 0, .int .i64 24000, .bool false, .int .i64 0, .int .i64 0, .slice A 3 c0, .int .i64 0]] w fun e w' => (∃ A' c, e = .returned (.tuple #[.agg #[.int .i64 1600, .int .i64 (-800), .int .i64 (-800), .int .i64 24000, .int .i64 0, .int .i64 0, .int .i64 0, .int .i64 0, .slice A' 3 c], .nilIface]) ∧ Sl w' w'.heap.size 1 A' (rows [25000, 25000, 25000]) ∧ (∀ ad, A' = some ad → w.heap.size ≤ ad.block)) ∧ Below w.heap.size w w' := by
  have h := poutM_ok exP X exT A 3 c0 w L S rfl ex_code rfl
  rw [ex_a, ex_b, ex_c, ex_t, ex_ang, ex_wr, ex_cel] at h
  exact h
set_option maxRecDepth 100000 in
set_option maxHeartbeats 6400000 in
theorem awakeP_walk (w : World) : Calls Tryz.prog 6 #[] w fun e w' => e = .returned (.bool true) ∧ Below w.heap.size w w' := by
  have HB := Below.refl w.heap.size w
  go_enter Tryz.func6, Tryz.ntmps6
  go_wp2_with fail
  with_reducible refine (ex_walk' _).mono ?_
  rintro e w1 ⟨⟨X1, rfl, LP⟩, hb⟩
  replace HB := HB.trans (hb.mono HB.size)
  clear hb
  go_wp2_with fail
  with_reducible refine (ex_start X1 _ LP).mono ?_
  rintro e w2 ⟨⟨A1, rfl, SA, fA⟩, hb⟩
  replace HB := HB.trans (hb.mono HB.size)
  clear hb
  clear LP fA
  have HS := Below.refl w2.heap.size w2
  obtain ⟨w3, eW3, sW3, b1, hb⟩ := box w2 #[.int .i64 0, .int .i64 0, .int .i64 0, .bool false, .int .i64 0, .int .i64 0, .slice none 0 0, .int .i64 0] 47 (g := w2.heap.size) rfl HB (by have := HB.size; omega)
  have Qb1 : Hid (w.heap.size ≤ w2.heap.size ∧ w2.heap.size ≤ w2.heap.size) := Lib.hid ⟨by have := HB.size; omega, by have := HS.size; omega⟩
  replace HS : Below w2.heap.size w2 w3 := eW3 ▸ HS.alloc HS.size _
  replace HB := hb
  clear hb
  have qb1 := Qb1.out
  have uHS := HS.size
  have b1o3 := b1
  obtain ⟨w4, eW4, sW4, hr, hb⟩ := rowX b1 #[.int .i64 50000, .int .i64 0, .int .i64 24000, .bool false, .int .i64 0, .int .i64 0, .slice A1 3 3, .int .i64 0] (n := w2.heap.size + 1) sW3 HB (by omega)
  replace b1 := hr
  have HSo := HS
  replace HS : Below w2.heap.size w2 w4 := eW4 ▸ below_row HS (by omega)
  replace HB := hb
  clear hb hr qb1 uHS
  go_wp2_with (first | (refine wpList_store_row rfl 47 _ _ rfl (w2.heap.size) #[.int .i64 50000, .int .i64 0, .int .i64 24000, .bool false, .int .i64 0, .int .i64 0, .slice A1 3 3, .int .i64 0] rfl rfl _ _ b1o3 (by kernel_rfl) (by kernel_rfl) (by kernel_rfl) ?_))
  clear b1o3 eW3 sW3 eW4 sW4
  go_cut [3, 4] from 12 to 20 (fun u3 u4 wx => u4 = .nilIface ∧ ∃ b A c, w.heap.size ≤ b ∧ u3 = .pointer (some ⟨b, 0, none⟩) ∧ Blk wx b 47 #[.int .i64 66000, .int .i64 0, .int .i64 24000, .bool false, .int .i64 0, .int .i64 0, .slice A 3 c, .int .i64 0] ∧ Sl wx wx.heap.size 1 A (rows exT.h) ∧ Below w.heap.size w wx)
  case first =>
    obtain ⟨w5, hw, sw⟩ := drewX w4
    replace b1 : Blk w5 (w2.heap.size) 47 #[.int .i64 50000, .int .i64 0, .int .i64 24000, .bool false, .int .i64 0, .int .i64 0, .slice A1 3 3, .int .i64 0] := hw ▸ b1.drew
    have zb1 := b1.lt
    replace HB : Below w.heap.size w w5 := hw ▸ HB.drew
    replace HS : Below w2.heap.size w2 w5 := hw ▸ HS.drew
    refine wp_region_multi (fun i => [0, 2, 4, 8, 9, 10].contains i) (fun i => [0, 2, 4, 8].contains i) w5.heap.size (by kernel_rfl) ?_
    change wpX _ _ _ _ _ _ _ _ _ _ w4.drew
    rw [hw]
    clear hw sw
    have HR := Below.refl w5.heap.size w5
    apply wpX_take (i := 1) rfl rfl (by kernel_rfl) (fun _ _ _ h => h)
    · intro w' hb
      have yb10 := (b1.below hb zb1).cell 0
      have yb11 := (b1.below hb zb1).cell 1
      have yb12 := (b1.below hb zb1).cell 2
      have yb13 := (b1.below hb zb1).cell 3
      have yb14 := (b1.below hb zb1).cell 4
      have yb15 := (b1.below hb zb1).cell 5
      have yb16 := (b1.below hb zb1).cell 6
      have yb17 := (b1.below hb zb1).cell 7
      unfold yv
      go_simp
      simp only [yvUpon]
      exact ⟨trivial, rfl⟩
    · go_simp
      exact rfl
    apply wpX_two (i := 0) (k := 8) rfl rfl rfl rfl (by kernel_rfl)
    · unfold mild
      go_simp
      simp only [mildUpon]
      refine ⟨trivial, ?_⟩
      with_reducible refine (ex_walk' _).mono ?_
      rintro e w6 ⟨⟨X2, rfl, LP2⟩, hb⟩
      refine ⟨_, rfl, hb.mono HR.size, ?_⟩
      replace b1 := b1.below hb b1.lt
      replace HB := HB.trans (hb.mono HB.size)
      replace HS := HS.trans (hb.mono HS.size)
      replace HR := HR.trans (hb.mono HR.size)
      clear hb
      have HX := Below.refl w6.heap.size w6
      apply wpX_two (i := 2) (k := 8) rfl rfl rfl rfl (by kernel_rfl)
      · unfold mild
        go_simp
        simp only [mildUpon]
        refine ⟨trivial, ?_⟩
        with_reducible refine (on_walk _).mono ?_
        rintro e w7 ⟨rfl, hb⟩
        refine ⟨_, rfl, hb.mono HR.size, ?_⟩
        replace b1 := b1.below hb b1.lt
        replace HB := HB.trans (hb.mono HB.size)
        replace HS := HS.trans (hb.mono HS.size)
        replace HR := HR.trans (hb.mono HR.size)
        replace HX := HX.trans (hb.mono HX.size)
        clear hb
        apply wpX_take (i := 3) rfl rfl (by kernel_rfl) (fun _ _ _ h => h)
        · intro w' hb
          unfold yv
          go_simp
          simp only [yvUpon]
          exact ⟨trivial, rfl⟩
        · go_simp
          exact rfl
        apply wpX_two (i := 4) (k := 8) rfl rfl rfl rfl (by kernel_rfl)
        · unfold mild
          go_simp
          simp only [mildUpon]
          refine ⟨trivial, ?_⟩
          with_reducible refine (ex_stp X2 A1 _ ((LP2.below HX).more HX.size) ((SA.below HS).more HS.size)).mono ?_
          rintro e w8 ⟨⟨A2, u2, rfl, SB, fB⟩, hb⟩
          refine ⟨_, rfl, hb.mono HR.size, ?_⟩
          replace b1 := b1.below hb b1.lt
          replace HB := HB.trans (hb.mono HB.size)
          replace HS := HS.trans (hb.mono HS.size)
          replace HR := HR.trans (hb.mono HR.size)
          replace HX := HX.trans (hb.mono HX.size)
          clear hb
          have HT := Below.refl w8.heap.size w8
          apply wpX_take (i := 5) rfl rfl (by kernel_rfl) (fun _ _ _ h => h)
          · intro w' hb
            unfold yv
            go_simp
            simp only [yvUpon]
            exact ⟨trivial, rfl⟩
          · go_simp
            exact rfl
          apply wpX_take (i := 6) rfl rfl (by kernel_rfl) (fun _ _ _ h => h)
          · intro w' hb
            unfold yv
            go_simp
            simp only [yvUpon]
            exact ⟨trivial, rfl⟩
          · go_simp
            exact rfl
          apply wpX_take (i := 7) rfl rfl (by kernel_rfl) (fun _ _ _ h => h)
          · intro w' hb
            unfold yv
            go_simp
            simp only [yvUpon]
            exact ⟨trivial, rfl⟩
          · go_simp
            exact rfl
          apply wpX_one (i := 8) rfl rfl (by kernel_rfl)
          unfold mild
          go_simp
          simp only [mildUpon]
          refine ⟨(Below.refl _ _).alloc HR.size _, ?_⟩
          obtain ⟨w9, eW9, sW9, b3, hb⟩ := box w8 #[.int .i64 0, .int .i64 0, .int .i64 0, .bool false, .int .i64 0, .int .i64 0, .slice none 0 0, .int .i64 0] 47 (g := w8.heap.size) rfl HB (by have := HB.size; omega)
          have Qb3 : Hid (w.heap.size ≤ w8.heap.size ∧ w2.heap.size ≤ w8.heap.size ∧ w5.heap.size ≤ w8.heap.size ∧ w6.heap.size ≤ w8.heap.size ∧ w8.heap.size ≤ w8.heap.size ∧ w2.heap.size < w8.heap.size) := Lib.hid ⟨by have := HB.size; omega, by have := HS.size; omega, by have := HR.size; omega, by have := HX.size; omega, by have := HT.size; omega, by have := b1.lt; omega⟩
          replace b1 := b1.al eW9
          replace HS : Below w2.heap.size w2 w9 := eW9 ▸ HS.alloc HS.size _
          replace HR : Below w5.heap.size w5 w9 := eW9 ▸ HR.alloc HR.size _
          replace HX : Below w6.heap.size w6 w9 := eW9 ▸ HX.alloc HX.size _
          replace HT : Below w8.heap.size w8 w9 := eW9 ▸ HT.alloc HT.size _
          replace HB := hb
          clear hb
          rw [eW9]
          clear eW9 sW9
          refine wpX_rest (k := 9) (by kernel_rfl) ?_
          simp only [List.drop_succ_cons, List.drop_zero]
          have ne3 : ∀ ad, A2 = some ad → ad.block ≠ w8.heap.size := fun ad h => by have h1 := fB ad h; have h2 := Sl.lt3 SB ad h; omega
          have hq3 : w.heap.size ≤ w8.heap.size := by have := Qb3.out; omega
          have qb1 := Qb1.out
          have qb3 := Qb3.out
          have b3o9 := b3
          obtain ⟨w10, eW10, sW10, hr, hb⟩ := rowX b3 #[.int .i64 66000, .int .i64 0, .int .i64 24000, .bool false, .int .i64 0, .int .i64 0, .slice A2 3 u2, .int .i64 0] (n := w9.heap.size) rfl HB (by omega)
          replace b1 := b1.rowTo eW10 (by omega)
          replace b3 := hr
          replace HB := hb
          clear hb hr qb1 qb3
          have ST := (SB.below (show Below w8.heap.size w8 w9 from HT)).rowTo eW10 ne3
          go_wp2_with (first | (refine wpList_store_row rfl 47 _ _ rfl (w8.heap.size) #[.int .i64 66000, .int .i64 0, .int .i64 24000, .bool false, .int .i64 0, .int .i64 0, .slice A2 3 u2, .int .i64 0] rfl rfl _ _ b3o9 (by kernel_rfl) (by kernel_rfl) (by kernel_rfl) ?_))
          try simp only [eW10]
          go_meet
          case rel => exact ⟨rfl, w8.heap.size, A2, u2, hq3, rfl, b3, ST.more (by have := HT.size; omega), HB⟩
        · unfold mild
          go_simp
          simp only [mildUpon]
          refine ⟨(Below.refl _ _).alloc HR.size _, ?_⟩
          obtain ⟨w8, eW8, sW8, b3, hb⟩ := box w7 #[.int .i64 0, .int .i64 0, .int .i64 0, .bool false, .int .i64 0, .int .i64 0, .slice none 0 0, .int .i64 0] 47 (g := w7.heap.size) rfl HB (by have := HB.size; omega)
          have Qb3 : Hid (w.heap.size ≤ w7.heap.size ∧ w2.heap.size ≤ w7.heap.size ∧ w5.heap.size ≤ w7.heap.size ∧ w6.heap.size ≤ w7.heap.size ∧ w2.heap.size < w7.heap.size) := Lib.hid ⟨by have := HB.size; omega, by have := HS.size; omega, by have := HR.size; omega, by have := HX.size; omega, by have := b1.lt; omega⟩
          replace b1 := b1.al eW8
          replace HS : Below w2.heap.size w2 w8 := eW8 ▸ HS.alloc HS.size _
          replace HR : Below w5.heap.size w5 w8 := eW8 ▸ HR.alloc HR.size _
          replace HX : Below w6.heap.size w6 w8 := eW8 ▸ HX.alloc HX.size _
          replace HB := hb
          clear hb
          rw [eW8]
          clear eW8 sW8
          apply wpX_one (i := 4) rfl rfl (by kernel_rfl)
          unfold mild
          go_simp
          simp only [mildUpon]
          refine ⟨trivial, ?_⟩
          have xb3 := b3.lt
          with_reducible refine (ex_stp X2 A1 _ ((LP2.below HX).more HX.size) ((SA.below HS).more HS.size)).mono ?_
          rintro e w9 ⟨⟨A2, u2, rfl, SB, fB⟩, hb⟩
          refine ⟨_, rfl, hb.mono HR.size, ?_⟩
          replace b1 := b1.below hb b1.lt
          replace b3 := b3.below hb b3.lt
          replace HB := HB.trans (hb.mono HB.size)
          replace HS := HS.trans (hb.mono HS.size)
          replace HR := HR.trans (hb.mono HR.size)
          replace HX := HX.trans (hb.mono HX.size)
          clear hb
          have HT := Below.refl w9.heap.size w9
          apply wpX_take (i := 5) rfl rfl (by kernel_rfl) (fun _ _ _ h => h)
          · intro w' hb
            unfold yv
            go_simp
            simp only [yvUpon]
            exact ⟨trivial, rfl⟩
          · go_simp
            exact rfl
          apply wpX_take (i := 6) rfl rfl (by kernel_rfl) (fun _ _ _ h => h)
          · intro w' hb
            unfold yv
            go_simp
            simp only [yvUpon]
            exact ⟨trivial, rfl⟩
          · go_simp
            exact rfl
          apply wpX_take (i := 7) rfl rfl (by kernel_rfl) (fun _ _ _ h => h)
          · intro w' hb
            unfold yv
            go_simp
            simp only [yvUpon]
            exact ⟨trivial, rfl⟩
          · go_simp
            exact rfl
          refine wpX_rest (k := 9) (by kernel_rfl) ?_
          simp only [List.drop_succ_cons, List.drop_zero]
          have ne3 : ∀ ad, A2 = some ad → ad.block ≠ w7.heap.size := fun ad h => by have h1 := fB ad h; have h2 := Sl.lt3 SB ad h; omega
          have hq3 : w.heap.size ≤ w7.heap.size := by have := Qb3.out; omega
          have qb1 := Qb1.out
          have qb3 := Qb3.out
          have b3o9 := b3
          obtain ⟨w10, eW10, sW10, hr, hb⟩ := rowX b3 #[.int .i64 66000, .int .i64 0, .int .i64 24000, .bool false, .int .i64 0, .int .i64 0, .slice A2 3 u2, .int .i64 0] (n := w9.heap.size) rfl HB (by omega)
          replace b1 := b1.rowTo eW10 (by omega)
          replace b3 := hr
          replace HB := hb
          clear hb hr qb1 qb3
          have ST := (SB.below (show Below w9.heap.size w9 w9 from HT)).rowTo eW10 ne3
          go_wp2_with (first | (refine wpList_store_row rfl 47 _ _ rfl (w7.heap.size) #[.int .i64 66000, .int .i64 0, .int .i64 24000, .bool false, .int .i64 0, .int .i64 0, .slice A2 3 u2, .int .i64 0] rfl rfl _ _ b3o9 (by kernel_rfl) (by kernel_rfl) (by kernel_rfl) ?_))
          try simp only [eW10]
          go_meet
          case rel => exact ⟨rfl, w7.heap.size, A2, u2, hq3, rfl, b3, ST.more (by have := HT.size; omega), HB⟩
      · unfold mild
        go_simp
        simp only [mildUpon]
        refine ⟨(Below.refl _ _).alloc HR.size _, ?_⟩
        obtain ⟨w7, eW7, sW7, b3, hb⟩ := box w6 #[.int .i64 0, .int .i64 0, .int .i64 0, .bool false, .int .i64 0, .int .i64 0, .slice none 0 0, .int .i64 0] 47 (g := w6.heap.size) rfl HB (by have := HB.size; omega)
        have Qb3 : Hid (w.heap.size ≤ w6.heap.size ∧ w2.heap.size ≤ w6.heap.size ∧ w5.heap.size ≤ w6.heap.size ∧ w6.heap.size ≤ w6.heap.size ∧ w2.heap.size < w6.heap.size) := Lib.hid ⟨by have := HB.size; omega, by have := HS.size; omega, by have := HR.size; omega, by have := HX.size; omega, by have := b1.lt; omega⟩
        replace b1 := b1.al eW7
        replace HS : Below w2.heap.size w2 w7 := eW7 ▸ HS.alloc HS.size _
        replace HR : Below w5.heap.size w5 w7 := eW7 ▸ HR.alloc HR.size _
        replace HX : Below w6.heap.size w6 w7 := eW7 ▸ HX.alloc HX.size _
        replace HB := hb
        clear hb
        rw [eW7]
        clear eW7 sW7
        apply wpX_one (i := 2) rfl rfl (by kernel_rfl)
        unfold mild
        go_simp
        simp only [mildUpon]
        refine ⟨trivial, ?_⟩
        with_reducible refine (on_walk _).mono ?_
        rintro e w8 ⟨rfl, hb⟩
        refine ⟨_, rfl, hb.mono HR.size, ?_⟩
        replace b1 := b1.below hb b1.lt
        replace b3 := b3.below hb b3.lt
        replace HB := HB.trans (hb.mono HB.size)
        replace HS := HS.trans (hb.mono HS.size)
        replace HR := HR.trans (hb.mono HR.size)
        replace HX := HX.trans (hb.mono HX.size)
        clear hb
        apply wpX_take (i := 3) rfl rfl (by kernel_rfl) (fun _ _ _ h => h)
        · intro w' hb
          unfold yv
          go_simp
          simp only [yvUpon]
          exact ⟨trivial, rfl⟩
        · go_simp
          exact rfl
        apply wpX_one (i := 4) rfl rfl (by kernel_rfl)
        unfold mild
        go_simp
        simp only [mildUpon]
        refine ⟨trivial, ?_⟩
        have xb3 := b3.lt
        with_reducible refine (ex_stp X2 A1 _ ((LP2.below HX).more HX.size) ((SA.below HS).more HS.size)).mono ?_
        rintro e w9 ⟨⟨A2, u2, rfl, SB, fB⟩, hb⟩
        refine ⟨_, rfl, hb.mono HR.size, ?_⟩
        replace b1 := b1.below hb b1.lt
        replace b3 := b3.below hb b3.lt
        replace HB := HB.trans (hb.mono HB.size)
        replace HS := HS.trans (hb.mono HS.size)
        replace HR := HR.trans (hb.mono HR.size)
        replace HX := HX.trans (hb.mono HX.size)
        clear hb
        have HT := Below.refl w9.heap.size w9
        apply wpX_take (i := 5) rfl rfl (by kernel_rfl) (fun _ _ _ h => h)
        · intro w' hb
          unfold yv
          go_simp
          simp only [yvUpon]
          exact ⟨trivial, rfl⟩
        · go_simp
          exact rfl
        apply wpX_take (i := 6) rfl rfl (by kernel_rfl) (fun _ _ _ h => h)
        · intro w' hb
          unfold yv
          go_simp
          simp only [yvUpon]
          exact ⟨trivial, rfl⟩
        · go_simp
          exact rfl
        apply wpX_take (i := 7) rfl rfl (by kernel_rfl) (fun _ _ _ h => h)
        · intro w' hb
          unfold yv
          go_simp
          simp only [yvUpon]
          exact ⟨trivial, rfl⟩
        · go_simp
          exact rfl
        refine wpX_rest (k := 9) (by kernel_rfl) ?_
        simp only [List.drop_succ_cons, List.drop_zero]
        have ne3 : ∀ ad, A2 = some ad → ad.block ≠ w6.heap.size := fun ad h => by have h1 := fB ad h; have h2 := Sl.lt3 SB ad h; omega
        have hq3 : w.heap.size ≤ w6.heap.size := by have := Qb3.out; omega
        have qb1 := Qb1.out
        have qb3 := Qb3.out
        have b3o9 := b3
        obtain ⟨w10, eW10, sW10, hr, hb⟩ := rowX b3 #[.int .i64 66000, .int .i64 0, .int .i64 24000, .bool false, .int .i64 0, .int .i64 0, .slice A2 3 u2, .int .i64 0] (n := w9.heap.size) rfl HB (by omega)
        replace b1 := b1.rowTo eW10 (by omega)
        replace b3 := hr
        replace HB := hb
        clear hb hr qb1 qb3
        have ST := (SB.below (show Below w9.heap.size w9 w9 from HT)).rowTo eW10 ne3
        go_wp2_with (first | (refine wpList_store_row rfl 47 _ _ rfl (w6.heap.size) #[.int .i64 66000, .int .i64 0, .int .i64 24000, .bool false, .int .i64 0, .int .i64 0, .slice A2 3 u2, .int .i64 0] rfl rfl _ _ b3o9 (by kernel_rfl) (by kernel_rfl) (by kernel_rfl) ?_))
        try simp only [eW10]
        go_meet
        case rel => exact ⟨rfl, w6.heap.size, A2, u2, hq3, rfl, b3, ST.more (by have := HT.size; omega), HB⟩
    · unfold mild
      go_simp
      simp only [mildUpon]
      refine ⟨(Below.refl _ _).alloc HR.size _, ?_⟩
      obtain ⟨w6, eW6, sW6, b3, hb⟩ := box w5 #[.int .i64 0, .int .i64 0, .int .i64 0, .bool false, .int .i64 0, .int .i64 0, .slice none 0 0, .int .i64 0] 47 (g := w5.heap.size) rfl HB (by have := HB.size; omega)
      have Qb3 : Hid (w.heap.size ≤ w5.heap.size ∧ w2.heap.size ≤ w5.heap.size ∧ w5.heap.size ≤ w5.heap.size ∧ w2.heap.size < w5.heap.size) := Lib.hid ⟨by have := HB.size; omega, by have := HS.size; omega, by have := HR.size; omega, by have := b1.lt; omega⟩
      replace b1 := b1.al eW6
      replace HS : Below w2.heap.size w2 w6 := eW6 ▸ HS.alloc HS.size _
      replace HR : Below w5.heap.size w5 w6 := eW6 ▸ HR.alloc HR.size _
      replace HB := hb
      clear hb
      rw [eW6]
      clear eW6 sW6
      apply wpX_one (i := 0) rfl rfl (by kernel_rfl)
      unfold mild
      go_simp
      simp only [mildUpon]
      refine ⟨trivial, ?_⟩
      with_reducible refine (ex_walk' _).mono ?_
      rintro e w7 ⟨⟨X2, rfl, LP2⟩, hb⟩
      refine ⟨_, rfl, hb.mono HR.size, ?_⟩
      replace b1 := b1.below hb b1.lt
      replace b3 := b3.below hb b3.lt
      replace HB := HB.trans (hb.mono HB.size)
      replace HS := HS.trans (hb.mono HS.size)
      replace HR := HR.trans (hb.mono HR.size)
      clear hb
      have HX := Below.refl w7.heap.size w7
      apply wpX_one (i := 2) rfl rfl (by kernel_rfl)
      unfold mild
      go_simp
      simp only [mildUpon]
      refine ⟨trivial, ?_⟩
      with_reducible refine (on_walk _).mono ?_
      rintro e w8 ⟨rfl, hb⟩
      refine ⟨_, rfl, hb.mono HR.size, ?_⟩
      replace b1 := b1.below hb b1.lt
      replace b3 := b3.below hb b3.lt
      replace HB := HB.trans (hb.mono HB.size)
      replace HS := HS.trans (hb.mono HS.size)
      replace HR := HR.trans (hb.mono HR.size)
      replace HX := HX.trans (hb.mono HX.size)
      clear hb
      apply wpX_take (i := 3) rfl rfl (by kernel_rfl) (fun _ _ _ h => h)
      · intro w' hb
        unfold yv
        go_simp
        simp only [yvUpon]
        exact ⟨trivial, rfl⟩
      · go_simp
        exact rfl
      apply wpX_one (i := 4) rfl rfl (by kernel_rfl)
      unfold mild
      go_simp
      simp only [mildUpon]
      refine ⟨trivial, ?_⟩
      have xb3 := b3.lt
      with_reducible refine (ex_stp X2 A1 _ ((LP2.below HX).more HX.size) ((SA.below HS).more HS.size)).mono ?_
      rintro e w9 ⟨⟨A2, u2, rfl, SB, fB⟩, hb⟩
      refine ⟨_, rfl, hb.mono HR.size, ?_⟩
      replace b1 := b1.below hb b1.lt
      replace b3 := b3.below hb b3.lt
      replace HB := HB.trans (hb.mono HB.size)
      replace HS := HS.trans (hb.mono HS.size)
      replace HR := HR.trans (hb.mono HR.size)
      replace HX := HX.trans (hb.mono HX.size)
      clear hb
      have HT := Below.refl w9.heap.size w9
      apply wpX_take (i := 5) rfl rfl (by kernel_rfl) (fun _ _ _ h => h)
      · intro w' hb
        unfold yv
        go_simp
        simp only [yvUpon]
        exact ⟨trivial, rfl⟩
      · go_simp
        exact rfl
      apply wpX_take (i := 6) rfl rfl (by kernel_rfl) (fun _ _ _ h => h)
      · intro w' hb
        unfold yv
        go_simp
        simp only [yvUpon]
        exact ⟨trivial, rfl⟩
      · go_simp
        exact rfl
      apply wpX_take (i := 7) rfl rfl (by kernel_rfl) (fun _ _ _ h => h)
      · intro w' hb
        unfold yv
        go_simp
        simp only [yvUpon]
        exact ⟨trivial, rfl⟩
      · go_simp
        exact rfl
      refine wpX_rest (k := 9) (by kernel_rfl) ?_
      simp only [List.drop_succ_cons, List.drop_zero]
      have ne3 : ∀ ad, A2 = some ad → ad.block ≠ w5.heap.size := fun ad h => by have h1 := fB ad h; have h2 := Sl.lt3 SB ad h; omega
      have hq3 : w.heap.size ≤ w5.heap.size := by have := Qb3.out; omega
      have qb1 := Qb1.out
      have qb3 := Qb3.out
      have b3o9 := b3
      obtain ⟨w10, eW10, sW10, hr, hb⟩ := rowX b3 #[.int .i64 66000, .int .i64 0, .int .i64 24000, .bool false, .int .i64 0, .int .i64 0, .slice A2 3 u2, .int .i64 0] (n := w9.heap.size) rfl HB (by omega)
      replace b1 := b1.rowTo eW10 (by omega)
      replace b3 := hr
      replace HB := hb
      clear hb hr qb1 qb3
      have ST := (SB.below (show Below w9.heap.size w9 w9 from HT)).rowTo eW10 ne3
      go_wp2_with (first | (refine wpList_store_row rfl 47 _ _ rfl (w5.heap.size) #[.int .i64 66000, .int .i64 0, .int .i64 24000, .bool false, .int .i64 0, .int .i64 0, .slice A2 3 u2, .int .i64 0] rfl rfl _ _ b3o9 (by kernel_rfl) (by kernel_rfl) (by kernel_rfl) ?_))
      try simp only [eW10]
      go_meet
      case rel => exact ⟨rfl, w5.heap.size, A2, u2, hq3, rfl, b3, ST.more (by have := HT.size; omega), HB⟩
  case rest =>
    obtain ⟨rfl, b, A, c, hqb, rfl, b3, S3, HB⟩ := hcut
    obtain ⟨w100, rfl⟩ : ∃ W, W = wc := ⟨_, rfl⟩
    have Qb3 := Lib.hid hqb
    clear hqb
    have HS := Below.refl w100.heap.size w100
    go_wp2_with fail
    obtain ⟨w101, hw, sw⟩ := drewX w100
    replace b3 : Blk w101 (b) 47 #[.int .i64 66000, .int .i64 0, .int .i64 24000, .bool false, .int .i64 0, .int .i64 0, .slice A 3 c, .int .i64 0] := hw ▸ b3.drew
    have zb3 := b3.lt
    replace HB : Below w.heap.size w w101 := hw ▸ HB.drew
    replace HS : Below w100.heap.size w100 w101 := hw ▸ HS.drew
    refine wp_region_multi (fun i => [0, 2, 6, 7, 8].contains i) (fun i => [0, 2, 6].contains i) w101.heap.size (by kernel_rfl) ?_
    change wpX _ _ _ _ _ _ _ _ _ _ w100.drew
    rw [hw]
    clear hw sw
    have HR := Below.refl w101.heap.size w101
    apply wpX_take (i := 1) rfl rfl (by kernel_rfl) (fun _ _ _ h => h)
    · intro w' hb
      have yb30 := (b3.below hb zb3).cell 0
      have yb31 := (b3.below hb zb3).cell 1
      have yb32 := (b3.below hb zb3).cell 2
      have yb33 := (b3.below hb zb3).cell 3
      have yb34 := (b3.below hb zb3).cell 4
      have yb35 := (b3.below hb zb3).cell 5
      have yb36 := (b3.below hb zb3).cell 6
      have yb37 := (b3.below hb zb3).cell 7
      unfold yv
      go_simp
      simp only [yvUpon]
      exact ⟨trivial, rfl⟩
    · go_simp
      exact rfl
    apply wpX_two (i := 0) (k := 6) rfl rfl rfl rfl (by kernel_rfl)
    · unfold mild
      go_simp
      simp only [mildUpon]
      refine ⟨trivial, ?_⟩
      with_reducible refine (ex_walk' _).mono ?_
      rintro e w102 ⟨⟨X3, rfl, LP3⟩, hb⟩
      refine ⟨_, rfl, hb.mono HR.size, ?_⟩
      replace b3 := b3.below hb b3.lt
      replace HB := HB.trans (hb.mono HB.size)
      replace HS := HS.trans (hb.mono HS.size)
      replace HR := HR.trans (hb.mono HR.size)
      clear hb
      have HX := Below.refl w102.heap.size w102
      apply wpX_two (i := 2) (k := 6) rfl rfl rfl rfl (by kernel_rfl)
      · unfold mild
        go_simp
        simp only [mildUpon]
        refine ⟨trivial, ?_⟩
        with_reducible refine (ex_out X3 A c _ ((LP3.below HX).more HX.size) ((S3.below HS).more HS.size)).mono ?_
        rintro e w103 ⟨⟨A3, u3, rfl, SC, fC⟩, hb⟩
        refine ⟨_, rfl, hb.mono HR.size, ?_⟩
        replace b3 := b3.below hb b3.lt
        replace HB := HB.trans (hb.mono HB.size)
        replace HS := HS.trans (hb.mono HS.size)
        replace HR := HR.trans (hb.mono HR.size)
        replace HX := HX.trans (hb.mono HX.size)
        clear hb
        apply wpX_take (i := 3) rfl rfl (by kernel_rfl) (fun _ _ _ h => h)
        · intro w' hb
          unfold yv
          go_simp
          simp only [yvUpon]
          exact ⟨trivial, rfl⟩
        · go_simp
          exact rfl
        apply wpX_take (i := 4) rfl rfl (by kernel_rfl) (fun _ _ _ h => h)
        · intro w' hb
          unfold yv
          go_simp
          simp only [yvUpon]
          exact ⟨trivial, rfl⟩
        · go_simp
          exact rfl
        apply wpX_take (i := 5) rfl rfl (by kernel_rfl) (fun _ _ _ h => h)
        · intro w' hb
          unfold yv
          go_simp
          simp only [yvUpon]
          exact ⟨trivial, rfl⟩
        · go_simp
          exact rfl
        apply wpX_one (i := 6) rfl rfl (by kernel_rfl)
        unfold mild
        go_simp
        simp only [mildUpon]
        refine ⟨(Below.refl _ _).alloc HR.size _, ?_⟩
        obtain ⟨w104, eW104, sW104, b5, hb⟩ := box w103 #[.int .i64 0, .int .i64 0, .int .i64 0, .int .i64 0, .int .i64 0, .int .i64 0, .int .i64 0, .int .i64 0, .slice none 0 0] 69 (g := w103.heap.size) rfl HB (by have := HB.size; omega)
        have Qb5 : Hid (w.heap.size ≤ w103.heap.size ∧ w100.heap.size ≤ w103.heap.size ∧ w101.heap.size ≤ w103.heap.size ∧ w102.heap.size ≤ w103.heap.size ∧ b < w103.heap.size) := Lib.hid ⟨by have := HB.size; omega, by have := HS.size; omega, by have := HR.size; omega, by have := HX.size; omega, by have := b3.lt; omega⟩
        replace b3 := b3.al eW104
        replace HS : Below w100.heap.size w100 w104 := eW104 ▸ HS.alloc HS.size _
        replace HR : Below w101.heap.size w101 w104 := eW104 ▸ HR.alloc HR.size _
        replace HX : Below w102.heap.size w102 w104 := eW104 ▸ HX.alloc HX.size _
        replace HB := hb
        clear hb
        rw [eW104]
        clear eW104 sW104
        refine wpX_rest (k := 7) (by kernel_rfl) ?_
        simp only [List.drop_succ_cons, List.drop_zero]
        have qb3 := Qb3.out
        have qb5 := Qb5.out
        have b5o104 := b5
        obtain ⟨w105, eW105, sW105, hr, hb⟩ := rowX b5 #[.int .i64 1600, .int .i64 (-800), .int .i64 (-800), .int .i64 24000, .int .i64 0, .int .i64 0, .int .i64 0, .int .i64 0, .slice A3 3 u3] (n := w104.heap.size) rfl HB (by omega)
        replace b3 := b3.rowTo eW105 (by omega)
        replace b5 := hr
        replace HB := hb
        clear hb hr qb3 qb5
        have b3c0 := b3.cell 0
        have b3c1 := b3.cell 1
        have b3c2 := b3.cell 2
        have b3c3 := b3.cell 3
        have b3c4 := b3.cell 4
        have b3c5 := b3.cell 5
        have b3c6 := b3.cell 6
        have b3c7 := b3.cell 7
        have b5c0 := b5.cell 0
        have b5c1 := b5.cell 1
        have b5c2 := b5.cell 2
        have b5c3 := b5.cell 3
        have b5c4 := b5.cell 4
        have b5c5 := b5.cell 5
        have b5c6 := b5.cell 6
        have b5c7 := b5.cell 7
        have b5c8 := b5.cell 8
        have he3 := fun (W : World) => eq_int3 1600 (-800) (-800) 1600 (-800) (-800) W
        simp only [beq_self_eq_true, Bool.and_self] at he3
        go_wp2_with (first | (refine wpList_store_row rfl 69 _ _ rfl (w103.heap.size) #[.int .i64 1600, .int .i64 (-800), .int .i64 (-800), .int .i64 24000, .int .i64 0, .int .i64 0, .int .i64 0, .int .i64 0, .slice A3 3 u3] rfl rfl _ _ b5o104 (by kernel_rfl) (by kernel_rfl) (by kernel_rfl) ?_))
        go_ret
        exact ⟨rfl, HB⟩
      · unfold mild
        go_simp
        simp only [mildUpon]
        refine ⟨(Below.refl _ _).alloc HR.size _, ?_⟩
        obtain ⟨w103, eW103, sW103, b5, hb⟩ := box w102 #[.int .i64 0, .int .i64 0, .int .i64 0, .int .i64 0, .int .i64 0, .int .i64 0, .int .i64 0, .int .i64 0, .slice none 0 0] 69 (g := w102.heap.size) rfl HB (by have := HB.size; omega)
        have Qb5 : Hid (w.heap.size ≤ w102.heap.size ∧ w100.heap.size ≤ w102.heap.size ∧ w101.heap.size ≤ w102.heap.size ∧ w102.heap.size ≤ w102.heap.size ∧ b < w102.heap.size) := Lib.hid ⟨by have := HB.size; omega, by have := HS.size; omega, by have := HR.size; omega, by have := HX.size; omega, by have := b3.lt; omega⟩
        replace b3 := b3.al eW103
        replace HS : Below w100.heap.size w100 w103 := eW103 ▸ HS.alloc HS.size _
        replace HR : Below w101.heap.size w101 w103 := eW103 ▸ HR.alloc HR.size _
        replace HX : Below w102.heap.size w102 w103 := eW103 ▸ HX.alloc HX.size _
        replace HB := hb
        clear hb
        rw [eW103]
        clear eW103 sW103
        apply wpX_one (i := 2) rfl rfl (by kernel_rfl)
        unfold mild
        go_simp
        simp only [mildUpon]
        refine ⟨trivial, ?_⟩
        with_reducible refine (ex_out X3 A c _ ((LP3.below HX).more HX.size) ((S3.below HS).more HS.size)).mono ?_
        rintro e w104 ⟨⟨A3, u3, rfl, SC, fC⟩, hb⟩
        refine ⟨_, rfl, hb.mono HR.size, ?_⟩
        replace b3 := b3.below hb b3.lt
        replace b5 := b5.below hb b5.lt
        replace HB := HB.trans (hb.mono HB.size)
        replace HS := HS.trans (hb.mono HS.size)
        replace HR := HR.trans (hb.mono HR.size)
        replace HX := HX.trans (hb.mono HX.size)
        clear hb
        apply wpX_take (i := 3) rfl rfl (by kernel_rfl) (fun _ _ _ h => h)
        · intro w' hb
          unfold yv
          go_simp
          simp only [yvUpon]
          exact ⟨trivial, rfl⟩
        · go_simp
          exact rfl
        apply wpX_take (i := 4) rfl rfl (by kernel_rfl) (fun _ _ _ h => h)
        · intro w' hb
          unfold yv
          go_simp
          simp only [yvUpon]
          exact ⟨trivial, rfl⟩
        · go_simp
          exact rfl
        apply wpX_take (i := 5) rfl rfl (by kernel_rfl) (fun _ _ _ h => h)
        · intro w' hb
          unfold yv
          go_simp
          simp only [yvUpon]
          exact ⟨trivial, rfl⟩
        · go_simp
          exact rfl
        refine wpX_rest (k := 7) (by kernel_rfl) ?_
        simp only [List.drop_succ_cons, List.drop_zero]
        have qb3 := Qb3.out
        have qb5 := Qb5.out
        have b5o104 := b5
        obtain ⟨w105, eW105, sW105, hr, hb⟩ := rowX b5 #[.int .i64 1600, .int .i64 (-800), .int .i64 (-800), .int .i64 24000, .int .i64 0, .int .i64 0, .int .i64 0, .int .i64 0, .slice A3 3 u3] (n := w104.heap.size) rfl HB (by omega)
        replace b3 := b3.rowTo eW105 (by omega)
        replace b5 := hr
        replace HB := hb
        clear hb hr qb3 qb5
        have b3c0 := b3.cell 0
        have b3c1 := b3.cell 1
        have b3c2 := b3.cell 2
        have b3c3 := b3.cell 3
        have b3c4 := b3.cell 4
        have b3c5 := b3.cell 5
        have b3c6 := b3.cell 6
        have b3c7 := b3.cell 7
        have b5c0 := b5.cell 0
        have b5c1 := b5.cell 1
        have b5c2 := b5.cell 2
        have b5c3 := b5.cell 3
        have b5c4 := b5.cell 4
        have b5c5 := b5.cell 5
        have b5c6 := b5.cell 6
        have b5c7 := b5.cell 7
        have b5c8 := b5.cell 8
        have he3 := fun (W : World) => eq_int3 1600 (-800) (-800) 1600 (-800) (-800) W
        simp only [beq_self_eq_true, Bool.and_self] at he3
        go_wp2_with (first | (refine wpList_store_row rfl 69 _ _ rfl (w102.heap.size) #[.int .i64 1600, .int .i64 (-800), .int .i64 (-800), .int .i64 24000, .int .i64 0, .int .i64 0, .int .i64 0, .int .i64 0, .slice A3 3 u3] rfl rfl _ _ b5o104 (by kernel_rfl) (by kernel_rfl) (by kernel_rfl) ?_))
        go_ret
        exact ⟨rfl, HB⟩
    · unfold mild
      go_simp
      simp only [mildUpon]
      refine ⟨(Below.refl _ _).alloc HR.size _, ?_⟩
      obtain ⟨w102, eW102, sW102, b5, hb⟩ := box w101 #[.int .i64 0, .int .i64 0, .int .i64 0, .int .i64 0, .int .i64 0, .int .i64 0, .int .i64 0, .int .i64 0, .slice none 0 0] 69 (g := w101.heap.size) rfl HB (by have := HB.size; omega)
      have Qb5 : Hid (w.heap.size ≤ w101.heap.size ∧ w100.heap.size ≤ w101.heap.size ∧ w101.heap.size ≤ w101.heap.size ∧ b < w101.heap.size) := Lib.hid ⟨by have := HB.size; omega, by have := HS.size; omega, by have := HR.size; omega, by have := b3.lt; omega⟩
      replace b3 := b3.al eW102
      replace HS : Below w100.heap.size w100 w102 := eW102 ▸ HS.alloc HS.size _
      replace HR : Below w101.heap.size w101 w102 := eW102 ▸ HR.alloc HR.size _
      replace HB := hb
      clear hb
      rw [eW102]
      clear eW102 sW102
      apply wpX_one (i := 0) rfl rfl (by kernel_rfl)
      unfold mild
      go_simp
      simp only [mildUpon]
      refine ⟨trivial, ?_⟩
      with_reducible refine (ex_walk' _).mono ?_
      rintro e w103 ⟨⟨X3, rfl, LP3⟩, hb⟩
      refine ⟨_, rfl, hb.mono HR.size, ?_⟩
      replace b3 := b3.below hb b3.lt
      replace b5 := b5.below hb b5.lt
      replace HB := HB.trans (hb.mono HB.size)
      replace HS := HS.trans (hb.mono HS.size)
      replace HR := HR.trans (hb.mono HR.size)
      clear hb
      have HX := Below.refl w103.heap.size w103
      apply wpX_one (i := 2) rfl rfl (by kernel_rfl)
      unfold mild
      go_simp
      simp only [mildUpon]
      refine ⟨trivial, ?_⟩
      with_reducible refine (ex_out X3 A c _ ((LP3.below HX).more HX.size) ((S3.below HS).more HS.size)).mono ?_
      rintro e w104 ⟨⟨A3, u3, rfl, SC, fC⟩, hb⟩
      refine ⟨_, rfl, hb.mono HR.size, ?_⟩
      replace b3 := b3.below hb b3.lt
      replace b5 := b5.below hb b5.lt
      replace HB := HB.trans (hb.mono HB.size)
      replace HS := HS.trans (hb.mono HS.size)
      replace HR := HR.trans (hb.mono HR.size)
      replace HX := HX.trans (hb.mono HX.size)
      clear hb
      apply wpX_take (i := 3) rfl rfl (by kernel_rfl) (fun _ _ _ h => h)
      · intro w' hb
        unfold yv
        go_simp
        simp only [yvUpon]
        exact ⟨trivial, rfl⟩
      · go_simp
        exact rfl
      apply wpX_take (i := 4) rfl rfl (by kernel_rfl) (fun _ _ _ h => h)
      · intro w' hb
        unfold yv
        go_simp
        simp only [yvUpon]
        exact ⟨trivial, rfl⟩
      · go_simp
        exact rfl
      apply wpX_take (i := 5) rfl rfl (by kernel_rfl) (fun _ _ _ h => h)
      · intro w' hb
        unfold yv
        go_simp
        simp only [yvUpon]
        exact ⟨trivial, rfl⟩
      · go_simp
        exact rfl
      refine wpX_rest (k := 7) (by kernel_rfl) ?_
      simp only [List.drop_succ_cons, List.drop_zero]
      have qb3 := Qb3.out
      have qb5 := Qb5.out
      have b5o104 := b5
      obtain ⟨w105, eW105, sW105, hr, hb⟩ := rowX b5 #[.int .i64 1600, .int .i64 (-800), .int .i64 (-800), .int .i64 24000, .int .i64 0, .int .i64 0, .int .i64 0, .int .i64 0, .slice A3 3 u3] (n := w104.heap.size) rfl HB (by omega)
      replace b3 := b3.rowTo eW105 (by omega)
      replace b5 := hr
      replace HB := hb
      clear hb hr qb3 qb5
      have b3c0 := b3.cell 0
      have b3c1 := b3.cell 1
      have b3c2 := b3.cell 2
      have b3c3 := b3.cell 3
      have b3c4 := b3.cell 4
      have b3c5 := b3.cell 5
      have b3c6 := b3.cell 6
      have b3c7 := b3.cell 7
      have b5c0 := b5.cell 0
      have b5c1 := b5.cell 1
      have b5c2 := b5.cell 2
      have b5c3 := b5.cell 3
      have b5c4 := b5.cell 4
      have b5c5 := b5.cell 5
      have b5c6 := b5.cell 6
      have b5c7 := b5.cell 7
      have b5c8 := b5.cell 8
      have he3 := fun (W : World) => eq_int3 1600 (-800) (-800) 1600 (-800) (-800) W
      simp only [beq_self_eq_true, Bool.and_self] at he3
      go_wp2_with (first | (refine wpList_store_row rfl 69 _ _ rfl (w101.heap.size) #[.int .i64 1600, .int .i64 (-800), .int .i64 (-800), .int .i64 24000, .int .i64 0, .int .i64 0, .int .i64 0, .int .i64 0, .slice A3 3 u3] rfl rfl _ _ b5o104 (by kernel_rfl) (by kernel_rfl) (by kernel_rfl) ?_))
      go_ret
      exact ⟨rfl, HB⟩
end Go.Proofs.YtpfkiohknpeifaaGreat
