/- The walks of layer 24's ranges and on, and the reference's. -/
import Derived.Test.YtgnojdiecgfeaaaGate
namespace Go.Proofs.Ytgnojdiecgfeaaa
open Go.RowKit

theorem legOk_no_s {s j : Int} (h : ¬ (0 ≤ s ∧ s ≤ 2)) : legOk ⟨s, j⟩ = false := by
  rw [Bool.eq_false_iff]; simp only [legOk, ne_eq, Bool.and_eq_true, decide_eq_true_eq]; omega
theorem legOk_no_j {s j : Int} (h : ¬ (0 ≤ j ∧ j ≤ 4096)) : legOk ⟨s, j⟩ = false := by
  rw [Bool.eq_false_iff]; simp only [legOk, ne_eq, Bool.and_eq_true, decide_eq_true_eq]; omega
theorem legOk_yes {s j : Int} (h : 0 ≤ s ∧ s ≤ 2) (h' : 0 ≤ j ∧ j ≤ 4096) : legOk ⟨s, j⟩ = true := by
  simp only [legOk, Bool.and_eq_true, decide_eq_true_eq]; omega

set_option maxRecDepth 100000 in
set_option maxHeartbeats 1600000 in
theorem ranges_walk (s0 j0 s1 j1 s2 j2 per dead : Int) (w : World) : Calls Try.prog 63 #[.agg #[.int .i64 s0, .int .i64 j0, .int .i64 s1, .int .i64 j1, .int .i64 s2, .int .i64 j2], .int .i64 per, .int .i64 dead] w fun e w' => e = .returned (.bool (rngOk ⟨s0, j0⟩ ⟨s1, j1⟩ ⟨s2, j2⟩ per dead)) ∧ Below w.heap.size w w' := by
  have hb := (Below.refl w.heap.size w).alloc (Nat.le_refl _) (.cells #[.int .i64 s0, .int .i64 j0, .int .i64 s1, .int .i64 j1, .int .i64 s2, .int .i64 j2] 48)
  have ix0 := idx48_0 (.int .i64 s0) (.int .i64 j0) (.int .i64 s1) (.int .i64 j1) (.int .i64 s2) (.int .i64 j2)
  have ix1 := idx48_1 (.int .i64 s0) (.int .i64 j0) (.int .i64 s1) (.int .i64 j1) (.int .i64 s2) (.int .i64 j2)
  have ix2 := idx48_2 (.int .i64 s0) (.int .i64 j0) (.int .i64 s1) (.int .i64 j1) (.int .i64 s2) (.int .i64 j2)
  go_enter Try.func63, Try.ntmps63
  go_wp2
  go_loopw [10] (fun i wr => (i = .int .i64 0 ∨ (i = .int .i64 1 ∧ Hid (legOk ⟨s0, j0⟩ = true)) ∨ (i = .int .i64 2 ∧ Hid (legOk ⟨s0, j0⟩ = true ∧ legOk ⟨s1, j1⟩ = true)) ∨ (i = .int .i64 3 ∧ Hid (legOk ⟨s0, j0⟩ = true ∧ legOk ⟨s1, j1⟩ = true ∧ legOk ⟨s2, j2⟩ = true))) ∧ Below w.heap.size w wr) (fun i _ => 3 - (intOf i).toNat)
  case atStart => exact ⟨.inl rfl, hb⟩
  case round =>
  clear hb
  obtain ⟨hd, hb⟩ := hrel
  have hsz := hb.size
  rcases hd with rfl | ⟨rfl, hA⟩ | ⟨rfl, hA⟩ | ⟨rfl, hA⟩
  · have hba := hb.alloc hsz (.cells #[.int .i64 s0, .int .i64 j0] 47)
    by_cases hs : 0 ≤ s0 ∧ s0 ≤ 2
    · have HS := Lib.hid hs
      obtain ⟨hs1, hs2⟩ := hs
      go_wp2_with fail
      refine (within_yes s0 0 2 hs1 hs2 _).mono ?_
      rintro e w' ⟨rfl, rfl⟩
      by_cases hj : 0 ≤ j0 ∧ j0 ≤ 4096
      · have HJ := Lib.hid hj
        obtain ⟨hj1, hj2⟩ := hj
        go_wp2_with fail
        refine (within_yes j0 0 4096 hj1 hj2 _).mono ?_
        rintro e w' ⟨rfl, rfl⟩
        go_wp2
        go_roundw
        case rel => exact ⟨.inr (.inl ⟨rfl, legOk_yes HS.out HJ.out⟩), hba⟩
        case measure => simp [intOf]
      · have HX := Lib.hid hj
        clear hj
        go_wp2_with fail
        refine (within_no j0 0 4096 HX.out _).mono ?_
        rintro e w' ⟨rfl, rfl⟩
        go_wp2
        go_ret
        exact ⟨by simp [rngOk, legOk_no_j HX.out], hba⟩
    · have HX := Lib.hid hs
      clear hs
      go_wp2_with fail
      refine (within_no s0 0 2 HX.out _).mono ?_
      rintro e w' ⟨rfl, rfl⟩
      go_wp2
      go_ret
      exact ⟨by simp [rngOk, legOk_no_s HX.out], hba⟩
  · have hba := hb.alloc hsz (.cells #[.int .i64 s1, .int .i64 j1] 47)
    by_cases hs : 0 ≤ s1 ∧ s1 ≤ 2
    · have HS := Lib.hid hs
      obtain ⟨hs1, hs2⟩ := hs
      go_wp2_with fail
      refine (within_yes s1 0 2 hs1 hs2 _).mono ?_
      rintro e w' ⟨rfl, rfl⟩
      by_cases hj : 0 ≤ j1 ∧ j1 ≤ 4096
      · have HJ := Lib.hid hj
        obtain ⟨hj1, hj2⟩ := hj
        go_wp2_with fail
        refine (within_yes j1 0 4096 hj1 hj2 _).mono ?_
        rintro e w' ⟨rfl, rfl⟩
        go_wp2
        go_roundw
        case rel => exact ⟨.inr (.inr (.inl ⟨rfl, ⟨hA.out, legOk_yes HS.out HJ.out⟩⟩)), hba⟩
        case measure => simp [intOf]
      · have HX := Lib.hid hj
        clear hj
        go_wp2_with fail
        refine (within_no j1 0 4096 HX.out _).mono ?_
        rintro e w' ⟨rfl, rfl⟩
        go_wp2
        go_ret
        exact ⟨by simp [rngOk, hA.out, legOk_no_j HX.out], hba⟩
    · have HX := Lib.hid hs
      clear hs
      go_wp2_with fail
      refine (within_no s1 0 2 HX.out _).mono ?_
      rintro e w' ⟨rfl, rfl⟩
      go_wp2
      go_ret
      exact ⟨by simp [rngOk, hA.out, legOk_no_s HX.out], hba⟩
  · have hba := hb.alloc hsz (.cells #[.int .i64 s2, .int .i64 j2] 47)
    by_cases hs : 0 ≤ s2 ∧ s2 ≤ 2
    · have HS := Lib.hid hs
      obtain ⟨hs1, hs2⟩ := hs
      go_wp2_with fail
      refine (within_yes s2 0 2 hs1 hs2 _).mono ?_
      rintro e w' ⟨rfl, rfl⟩
      by_cases hj : 0 ≤ j2 ∧ j2 ≤ 4096
      · have HJ := Lib.hid hj
        obtain ⟨hj1, hj2⟩ := hj
        go_wp2_with fail
        refine (within_yes j2 0 4096 hj1 hj2 _).mono ?_
        rintro e w' ⟨rfl, rfl⟩
        go_wp2
        go_roundw
        case rel => exact ⟨.inr (.inr (.inr ⟨rfl, ⟨hA.out.1, hA.out.2, legOk_yes HS.out HJ.out⟩⟩)), hba⟩
        case measure => simp [intOf]
      · have HX := Lib.hid hj
        clear hj
        go_wp2_with fail
        refine (within_no j2 0 4096 HX.out _).mono ?_
        rintro e w' ⟨rfl, rfl⟩
        go_wp2
        go_ret
        exact ⟨by simp [rngOk, hA.out.1, hA.out.2, legOk_no_j HX.out], hba⟩
    · have HX := Lib.hid hs
      clear hs
      go_wp2_with fail
      refine (within_no s2 0 2 HX.out _).mono ?_
      rintro e w' ⟨rfl, rfl⟩
      go_wp2
      go_ret
      exact ⟨by simp [rngOk, hA.out.1, hA.out.2, legOk_no_s HX.out], hba⟩
  · go_wp2_with fail
    refine (isPeriod_walk per _).mono ?_
    rintro e w' ⟨rfl, rfl⟩
    obtain ⟨pk, hpk⟩ : ∃ pk, perOk per = pk := ⟨_, rfl⟩
    rw [hpk]
    have HP := Lib.hid hpk
    clear hpk
    cases pk
    · go_wp2
      go_ret
      exact ⟨by simp [rngOk, HP.out], hb⟩
    · by_cases hd : 1 ≤ dead ∧ dead ≤ 1024
      · have HD : Hid (deadOk dead = true) := by show _ = _; simp [deadOk, hd]
        obtain ⟨hd1, hd2⟩ := hd
        go_wp2_with fail
        refine (within_yes dead 1 1024 hd1 hd2 _).mono ?_
        rintro e w' ⟨rfl, rfl⟩
        go_wp2
        go_ret
        exact ⟨by simp [rngOk, HP.out, HD.out, hA.out.1, hA.out.2.1, hA.out.2.2], hb⟩
      · have HD : Hid (deadOk dead = false) := by show _ = _; rw [Bool.eq_false_iff]; simp only [deadOk, ne_eq, Bool.and_eq_true, decide_eq_true_eq]; omega
        have HX := Lib.hid hd
        clear hd
        go_wp2_with fail
        refine (within_no dead 1 1024 HX.out _).mono ?_
        rintro e w' ⟨rfl, rfl⟩
        go_wp2
        go_ret
        exact ⟨by simp [rngOk, HD.out], hb⟩

set_option maxRecDepth 100000 in
set_option maxHeartbeats 1600000 in
theorem on_walk (s0 j0 s1 j1 s2 j2 : Int) (w : World) : Calls Try.prog 65 #[.agg #[.int .i64 s0, .int .i64 j0, .int .i64 s1, .int .i64 j1, .int .i64 s2, .int .i64 j2]] w fun e w' => e = .returned (.agg #[.bool (s0 == 2), .bool (s0 == 1), .bool (s1 == 2), .bool (s1 == 1), .bool (s2 == 2), .bool (s2 == 1)]) ∧ Below w.heap.size w w' := by
  have ix0 := idx48_0 (.int .i64 s0) (.int .i64 j0) (.int .i64 s1) (.int .i64 j1) (.int .i64 s2) (.int .i64 j2)
  have ix1 := idx48_1 (.int .i64 s0) (.int .i64 j0) (.int .i64 s1) (.int .i64 j1) (.int .i64 s2) (.int .i64 j2)
  have ix2 := idx48_2 (.int .i64 s0) (.int .i64 j0) (.int .i64 s1) (.int .i64 j1) (.int .i64 s2) (.int .i64 j2)
  go_enter Try.func65, Try.ntmps65
  go_wp2
  go_loopw [7] (fun i wr => ((i = .int .i64 0 ∧ Blk wr (w.heap.size + 1 + 1) 22 #[.bool false, .bool false, .bool false, .bool false, .bool false, .bool false]) ∨ (i = .int .i64 1 ∧ Blk wr (w.heap.size + 1 + 1) 22 #[.bool (s0 == 2), .bool (s0 == 1), .bool false, .bool false, .bool false, .bool false]) ∨ (i = .int .i64 2 ∧ Blk wr (w.heap.size + 1 + 1) 22 #[.bool (s0 == 2), .bool (s0 == 1), .bool (s1 == 2), .bool (s1 == 1), .bool false, .bool false]) ∨ (i = .int .i64 3 ∧ Blk wr (w.heap.size + 1 + 1) 22 #[.bool (s0 == 2), .bool (s0 == 1), .bool (s1 == 2), .bool (s1 == 1), .bool (s2 == 2), .bool (s2 == 1)])) ∧ Blk wr (w.heap.size + 1) 22 #[.bool false, .bool false, .bool false, .bool false, .bool false, .bool false] ∧ Below w.heap.size w wr) (fun i _ => 3 - (intOf i).toNat)
  case atStart => exact ⟨.inl ⟨rfl, Blk.new' (by simp)⟩, (Blk.new' (by simp)).alloc _, (((Below.refl w.heap.size w).alloc (Nat.le_refl _) _).alloc (by simp) _).alloc (by simp <;> omega) _⟩
  case round =>
  obtain ⟨hd, hres, hb⟩ := hrel
  have hsz := hb.size
  have hl2 := hres.lt
  rcases hd with ⟨rfl, hr⟩ | ⟨rfl, hr⟩ | ⟨rfl, hr⟩ | ⟨rfl, hr⟩
  · obtain ⟨r0, r1, r2, r3, r4, r5⟩ := hr.c6
    have hl3 := hr.lt
    have f0 := hr.frozen 0
    have f1 := hr.frozen 1
    obtain ⟨wo, rfl⟩ : ∃ wo : World, wo = wr := ⟨_, rfl⟩
    go_wp2
    go_region
    all_goals go_wp2
    all_goals go_roundw
    case rel => exact ⟨.inr (.inl ⟨rfl, ((hr.set_ 0 _).set_ 1 _).alloc _⟩), ((hres.far (by simp <;> omega) _).far (by simp <;> omega) _).alloc _, (((hb.setCell (by simp <;> omega) _).setCell (by simp <;> omega) _).alloc (by simp <;> omega) _).drew⟩
    case measure => simp [intOf]
  · obtain ⟨r0, r1, r2, r3, r4, r5⟩ := hr.c6
    have hl3 := hr.lt
    have f0 := hr.frozen 2
    have f1 := hr.frozen 3
    obtain ⟨wo, rfl⟩ : ∃ wo : World, wo = wr := ⟨_, rfl⟩
    go_wp2
    go_region
    all_goals go_wp2
    all_goals go_roundw
    case rel => exact ⟨.inr (.inr (.inl ⟨rfl, ((hr.set_ 2 _).set_ 3 _).alloc _⟩)), ((hres.far (by simp <;> omega) _).far (by simp <;> omega) _).alloc _, (((hb.setCell (by simp <;> omega) _).setCell (by simp <;> omega) _).alloc (by simp <;> omega) _).drew⟩
    case measure => simp [intOf]
  · obtain ⟨r0, r1, r2, r3, r4, r5⟩ := hr.c6
    have hl3 := hr.lt
    have f0 := hr.frozen 4
    have f1 := hr.frozen 5
    obtain ⟨wo, rfl⟩ : ∃ wo : World, wo = wr := ⟨_, rfl⟩
    go_wp2
    go_region
    all_goals go_wp2
    all_goals go_roundw
    case rel => exact ⟨.inr (.inr (.inr (⟨rfl, ((hr.set_ 4 _).set_ 5 _).alloc _⟩))), ((hres.far (by simp <;> omega) _).far (by simp <;> omega) _).alloc _, (((hb.setCell (by simp <;> omega) _).setCell (by simp <;> omega) _).alloc (by simp <;> omega) _).drew⟩
    case measure => simp [intOf]
  · obtain ⟨r0, r1, r2, r3, r4, r5⟩ := hr.c6
    obtain ⟨z0, z1, z2, z3, z4, z5⟩ := hres.c6
    have fz0 := hres.frozen 0
    have fz1 := hres.frozen 1
    have fz2 := hres.frozen 2
    have fz3 := hres.frozen 3
    have fz4 := hres.frozen 4
    have fz5 := hres.frozen 5
    go_wp2
    refine bodyPost_ret (ret_cell rfl rfl (load_six ((((((hres.set_ 0 _).set_ 1 _).set_ 2 _).set_ 3 _).set_ 4 _).set_ 5 _))) rfl ⟨rfl, ?_⟩
    exact (((((hb.setCell (by simp <;> omega) _).setCell (by simp <;> omega) _).setCell (by simp <;> omega) _).setCell (by simp <;> omega) _).setCell (by simp <;> omega) _).setCell (by simp <;> omega) _

set_option maxRecDepth 100000 in
set_option maxHeartbeats 1600000 in
theorem ron_walk (s0 j0 s1 j1 s2 j2 : Int) (w : World) : Calls Try.prog 70 #[.agg #[.int .i64 s0, .int .i64 j0, .int .i64 s1, .int .i64 j1, .int .i64 s2, .int .i64 j2]] w fun e w' => e = .returned (.agg #[.bool (s0 == 2), .bool (s0 == 1), .bool (s1 == 2), .bool (s1 == 1), .bool (s2 == 2), .bool (s2 == 1)]) ∧ Below w.heap.size w w' := by
  have ix0 := idx48_0 (.int .i64 s0) (.int .i64 j0) (.int .i64 s1) (.int .i64 j1) (.int .i64 s2) (.int .i64 j2)
  have ix1 := idx48_1 (.int .i64 s0) (.int .i64 j0) (.int .i64 s1) (.int .i64 j1) (.int .i64 s2) (.int .i64 j2)
  have ix2 := idx48_2 (.int .i64 s0) (.int .i64 j0) (.int .i64 s1) (.int .i64 j1) (.int .i64 s2) (.int .i64 j2)
  go_enter Try.func70, Try.ntmps70
  go_wp2
  go_loopw [8] (fun i wr => ((i = .int .i64 0 ∧ Blk wr (w.heap.size + 1 + 1) 22 #[.bool false, .bool false, .bool false, .bool false, .bool false, .bool false]) ∨ (i = .int .i64 1 ∧ Blk wr (w.heap.size + 1 + 1) 22 #[.bool (s0 == 2), .bool (s0 == 1), .bool false, .bool false, .bool false, .bool false]) ∨ (i = .int .i64 2 ∧ Blk wr (w.heap.size + 1 + 1) 22 #[.bool (s0 == 2), .bool (s0 == 1), .bool (s1 == 2), .bool (s1 == 1), .bool false, .bool false]) ∨ (i = .int .i64 3 ∧ Blk wr (w.heap.size + 1 + 1) 22 #[.bool (s0 == 2), .bool (s0 == 1), .bool (s1 == 2), .bool (s1 == 1), .bool (s2 == 2), .bool (s2 == 1)])) ∧ Blk wr (w.heap.size + 1) 22 #[.bool false, .bool false, .bool false, .bool false, .bool false, .bool false] ∧ Below w.heap.size w wr) (fun i _ => 3 - (intOf i).toNat)
  case atStart => exact ⟨.inl ⟨rfl, Blk.new' (by simp)⟩, (Blk.new' (by simp)).alloc _, (((Below.refl w.heap.size w).alloc (Nat.le_refl _) _).alloc (by simp) _).alloc (by simp <;> omega) _⟩
  case round =>
  obtain ⟨hd, hres, hb⟩ := hrel
  have hsz := hb.size
  have hl2 := hres.lt
  rcases hd with ⟨rfl, hr⟩ | ⟨rfl, hr⟩ | ⟨rfl, hr⟩ | ⟨rfl, hr⟩
  · obtain ⟨r0, r1, r2, r3, r4, r5⟩ := hr.c6
    have hl3 := hr.lt
    have f0 := hr.frozen 0
    have f1 := hr.frozen 1
    obtain ⟨wo, rfl⟩ : ∃ wo : World, wo = wr := ⟨_, rfl⟩
    go_wp2
    go_region
    all_goals go_wp2
    all_goals go_roundw
    case rel => exact ⟨.inr (.inl ⟨rfl, ((hr.set_ 0 _).set_ 1 _).alloc _⟩), ((hres.far (by simp <;> omega) _).far (by simp <;> omega) _).alloc _, (((hb.setCell (by simp <;> omega) _).setCell (by simp <;> omega) _).alloc (by simp <;> omega) _).drew⟩
    case measure => simp [intOf]
  · obtain ⟨r0, r1, r2, r3, r4, r5⟩ := hr.c6
    have hl3 := hr.lt
    have f0 := hr.frozen 2
    have f1 := hr.frozen 3
    obtain ⟨wo, rfl⟩ : ∃ wo : World, wo = wr := ⟨_, rfl⟩
    go_wp2
    go_region
    all_goals go_wp2
    all_goals go_roundw
    case rel => exact ⟨.inr (.inr (.inl ⟨rfl, ((hr.set_ 2 _).set_ 3 _).alloc _⟩)), ((hres.far (by simp <;> omega) _).far (by simp <;> omega) _).alloc _, (((hb.setCell (by simp <;> omega) _).setCell (by simp <;> omega) _).alloc (by simp <;> omega) _).drew⟩
    case measure => simp [intOf]
  · obtain ⟨r0, r1, r2, r3, r4, r5⟩ := hr.c6
    have hl3 := hr.lt
    have f0 := hr.frozen 4
    have f1 := hr.frozen 5
    obtain ⟨wo, rfl⟩ : ∃ wo : World, wo = wr := ⟨_, rfl⟩
    go_wp2
    go_region
    all_goals go_wp2
    all_goals go_roundw
    case rel => exact ⟨.inr (.inr (.inr (⟨rfl, ((hr.set_ 4 _).set_ 5 _).alloc _⟩))), ((hres.far (by simp <;> omega) _).far (by simp <;> omega) _).alloc _, (((hb.setCell (by simp <;> omega) _).setCell (by simp <;> omega) _).alloc (by simp <;> omega) _).drew⟩
    case measure => simp [intOf]
  · obtain ⟨r0, r1, r2, r3, r4, r5⟩ := hr.c6
    obtain ⟨z0, z1, z2, z3, z4, z5⟩ := hres.c6
    have fz0 := hres.frozen 0
    have fz1 := hres.frozen 1
    have fz2 := hres.frozen 2
    have fz3 := hres.frozen 3
    have fz4 := hres.frozen 4
    have fz5 := hres.frozen 5
    go_wp2
    refine bodyPost_ret (ret_cell rfl rfl (load_six ((((((hres.set_ 0 _).set_ 1 _).set_ 2 _).set_ 3 _).set_ 4 _).set_ 5 _))) rfl ⟨rfl, ?_⟩
    exact (((((hb.setCell (by simp <;> omega) _).setCell (by simp <;> omega) _).setCell (by simp <;> omega) _).setCell (by simp <;> omega) _).setCell (by simp <;> omega) _).setCell (by simp <;> omega) _

end Go.Proofs.Ytgnojdiecgfeaaa
