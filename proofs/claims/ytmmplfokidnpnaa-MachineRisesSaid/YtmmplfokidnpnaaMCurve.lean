/- The walks of the check of a curve of currents, and of the reference's. -/
import Derived.Test.YtmmplfokidnpnaaMAt
namespace Go.Proofs.Ytmmplfokidnpnaa
open Go.RowKit
/-- What is wrong with a point of a curve of currents. -/
def mcE (X Y : List Int) (i : Nat) : Int := if -268435456 ≤ g X i ∧ g X i ≤ 268435456 ∧ -1048576 ≤ g Y i ∧ g Y i ≤ 1048576 then 0 else 3
/-- What is wrong with a curve of currents. -/
def mcCode (X Y : List Int) : Int :=
  if cvCode X Y ≠ 0 then cvCode X Y else if fe (mcE X Y) X.length ≠ 0 then fe (mcE X Y) X.length
  else if 0 ≤ g X 0 ∨ g X (X.length - 1) ≤ 0 ∨ cvAt X Y 0 ≠ 0 then 2 else 0
structure McOk (X Y : List Int) : Prop where
  ok : CvOk X Y
  cv : cvCode X Y = 0
  bd : ∀ i, i < X.length → -268435456 ≤ g X i ∧ g X i ≤ 268435456 ∧ -1048576 ≤ g Y i ∧ g Y i ≤ 1048576
  lo : g X 0 < 0
  hi : 0 < g X (X.length - 1)
  zero : cvAt X Y 0 = 0
theorem mc_ok {X Y : List Int} (h : mcCode X Y = 0) : McOk X Y := by
  unfold mcCode at h
  split at h
  · contradiction
  split at h
  · contradiction
  split at h
  · contradiction
  rename_i h1 h2 h3
  have h1' : cvCode X Y = 0 := by omega
  have h2' : fe (mcE X Y) X.length = 0 := by omega
  refine ⟨cv_ok h1', h1', fun i hi => ?_, by omega, by omega, by omega⟩
  have := fe_zero h2' i hi
  unfold mcE at this
  split at this
  · assumption
  · contradiction
theorem mcCode_cv {X Y : List Int} (h : cvCode X Y ≠ 0) : mcCode X Y = cvCode X Y := by unfold mcCode; rw [if_pos h]
theorem mcCode_pt {X Y : List Int} (h : cvCode X Y = 0) (h2 : fe (mcE X Y) X.length ≠ 0) : mcCode X Y = fe (mcE X Y) X.length := by unfold mcCode; rw [if_neg (by omega), if_pos h2]
theorem mcCode_end {X Y : List Int} (h : cvCode X Y = 0) (h2 : fe (mcE X Y) X.length = 0) : mcCode X Y = if 0 ≤ g X 0 ∨ g X (X.length - 1) ≤ 0 ∨ cvAt X Y 0 ≠ 0 then 2 else 0 := by unfold mcCode; rw [if_neg (by omega), if_neg (by omega)]
set_option maxRecDepth 100000 in
set_option maxHeartbeats 1600000 in
theorem mcheck_walk (X Y : List Int) (AX AY : Option Addr) (n m cX cY : Nat) (w : World) (SX : Sl w w.heap.size 1 AX (rows X)) (SY : Sl w w.heap.size 1 AY (rows Y)) (hn : n = X.length) (hm : m = Y.length) :
    Calls Try.prog 42 #[.agg #[.slice AX n cX, .slice AY m cY]] w fun e w' => e = .returned (errV (mcCode X Y)) ∧ Below w.heap.size w w' := by
  have hck := fun (W : World) (h1 : Sl W W.heap.size 1 AX (rows X)) (h2 : Sl W W.heap.size 1 AY (rows Y)) => cvchk_walk X Y AX AY n m cX cY W h1 h2 hn hm
  have HN := Lib.hid hn
  have HM := Lib.hid hm
  clear hn hm
  have hb0 := (Below.refl w.heap.size w).alloc (Nat.le_refl _) (.cells #[.slice AX n cX, .slice AY m cY] 24)
  have g0 := Blk.new w 24 #[.slice AX n cX, .slice AY m cY]
  have sx0 := (SX.alloc (Nat.le_refl _) (.cells #[.slice AX n cX, .slice AY m cY] 24)).more (show w.heap.size ≤ (w.alloc (.cells #[.slice AX n cX, .slice AY m cY] 24)).heap.size by simp)
  have sy0 := (SY.alloc (Nat.le_refl _) (.cells #[.slice AX n cX, .slice AY m cY] 24)).more (show w.heap.size ≤ (w.alloc (.cells #[.slice AX n cX, .slice AY m cY] 24)).heap.size by simp)
  by_cases hc : cvCode X Y = 0
  case neg =>
    have HC := Lib.hid (mcCode_cv hc)
    obtain ⟨code, hcode⟩ : ∃ x, cvCode X Y = x := ⟨_, rfl⟩
    simp only [hcode] at hck
    rw [hcode] at hc HC
    have hev := errV_ne hc
    simp only [hev] at hck
    have HCK := hide hck
    clear hck hcode
    go_enter Try.func42, Try.ntmps42
    go_wp2_with fail
    refine ((unhide HCK) _ sx0 sy0).mono ?_
    rintro e w1 ⟨rfl, hb1⟩
    go_wp2
    go_ret
    exact ⟨by rw [HC.out, hev]; rfl, hb0.trans (hb1.mono hb0.size)⟩
  simp only [hc, errV_zero] at hck
  have HCK := hide hck
  have HO := Lib.hid (cv_ok hc)
  have HC := Lib.hid hc
  clear hck hc
  obtain ⟨ax, rfl⟩ := SX.ptr (by have := HO.out.two; omega)
  obtain ⟨ay, rfl⟩ := SY.ptr (by have := HO.out.two; have := HO.out.len; omega)
  have hnm : m = n := by have := HN.out; have := HM.out; have := HO.out.len; omega
  subst hnm
  have hat := fun (W : World) (h1 : Sl W W.heap.size 1 (some ax) (rows X)) (h2 : Sl W W.heap.size 1 (some ay) (rows Y)) => AtM X Y ax ay m cX cY 0 (by omega) W h1 h2 HN.out HO.out HC.out
  have HAT := hide hat
  have n2 : 2 ≤ m := by have := HO.out.two; have := HN.out; omega
  have n32 : m ≤ 32 := by have := HO.out.most; have := HN.out; omega
  clear hat
  go_enter Try.func42, Try.ntmps42
  go_wp2_with fail
  refine ((unhide HCK) _ sx0 sy0).mono ?_
  rintro e w1 ⟨rfl, hb1⟩
  have g1 := g0.below hb1 g0.lt
  have HB := hb0.trans (hb1.mono hb0.size)
  have l1 := g1.lt
  obtain ⟨y0, y1⟩ := g1.c2
  clear g0 hb0 sx0 sy0 hb1 HCK
  go_wp2
  go_loopw [20] (fun i wr => ∃ k : Nat, k ≤ m ∧ i = .int .i64 k ∧ Hid (∀ j, j < k → mcE X Y j = 0) ∧ Blk wr w.heap.size 24 #[.slice (some ax) m cX, .slice (some ay) m cY] ∧ Below w.heap.size w wr) (fun i _ => m - (intOf i).toNat)
  case atStart => exact ⟨0, Nat.zero_le _, rfl, (fun j h => by omega), g1, HB⟩
  case round =>
  clear g1 HB y0 y1 l1
  obtain ⟨k, hk, rfl, hg, g1, HB⟩ := hrel
  have l1 := g1.lt
  have hs := HB.size
  obtain ⟨y0, y1⟩ := g1.c2
  by_cases hlt : k < m
  · have hkl : k < X.length := by have := HN.out; omega
    obtain ⟨p, hpa, hpb, c0⟩ := (SX.below HB).at1' hkl
    obtain ⟨q, hqa, hqb, d0⟩ := (SY.below HB).at1' (k := k) (by have := HM.out; omega)
    have hpb1 : p.block < wr.heap.size := by omega
    have hqb1 : q.block < wr.heap.size := by omega
    rcases Bool.eq_false_or_eq_true (wiB (g X k) (-268435456) 268435456) with hw1 | hw1
    · rcases Bool.eq_false_or_eq_true (wiB (g Y k) (-1048576) 1048576) with hw2 | hw2
      · have HE := Lib.hid (show mcE X Y k = 0 by
          unfold mcE
          unfold wiB at hw1 hw2
          rw [decide_eq_true_eq] at hw1 hw2
          rw [if_pos (by omega)])
        go_wp2_with (first | (go_at_call 41; refine (wiM _ _ _ _).mono ?_; rintro e w' ⟨rfl, rfl⟩))
        go_roundw
        case rel => exact ⟨k + 1, by omega, by go_num, (fun j hj => by
          by_cases hjk : j = k
          · subst hjk; exact HE.out
          · exact hg.out j (by omega)), g1, HB⟩
        case measure => simp [intOf]; omega
      · have he : mcE X Y k = 3 := by
          unfold mcE
          unfold wiB at hw2
          rw [decide_eq_false_iff_not] at hw2
          rw [if_neg (by omega)]
        have HE := Lib.hid (show mcCode X Y = 3 by
          have hf := fe_hit hkl hg.out (by rw [he]; decide)
          rw [mcCode_pt HC.out (by rw [hf, he]; decide), hf, he])
        clear he
        go_wp2_with (first | (go_at_call 41; refine (wiM _ _ _ _).mono ?_; rintro e w' ⟨rfl, rfl⟩))
        go_ret
        exact ⟨by rw [HE.out]; rfl, HB⟩
    · have he : mcE X Y k = 3 := by
        unfold mcE
        unfold wiB at hw1
        rw [decide_eq_false_iff_not] at hw1
        rw [if_neg (by omega)]
      have HE := Lib.hid (show mcCode X Y = 3 by
        have hf := fe_hit hkl hg.out (by rw [he]; decide)
        rw [mcCode_pt HC.out (by rw [hf, he]; decide), hf, he])
      clear he
      go_wp2_with (first | (go_at_call 41; refine (wiM _ _ _ _).mono ?_; rintro e w' ⟨rfl, rfl⟩))
      go_ret
      exact ⟨by rw [HE.out]; rfl, HB⟩
  · obtain rfl : k = m := by omega
    have HE := Lib.hid (show mcCode X Y = if 0 ≤ g X 0 ∨ g X (k - 1) ≤ 0 ∨ cvAt X Y 0 ≠ 0 then 2 else 0 by
      rw [mcCode_end HC.out (fe_none fun i hi => hg.out i (by have := HN.out; omega)), ← HN.out])
    have sx1 := (SX.below HB).more hs
    have sy1 := (SY.below HB).more hs
    obtain ⟨a, ha⟩ : ∃ a, cvAt X Y 0 = a := ⟨_, rfl⟩
    have hat := unhide HAT
    simp only [ha] at hat
    rw [ha] at HE
    clear HAT ha
    go_wp2_with fail
    refine (hat _ sx1 sy1).mono ?_
    rintro e w2 ⟨rfl, hb2⟩
    have g2 := g1.below hb2 g1.lt
    have HB2 := HB.trans (hb2.mono hs)
    have l2 := g2.lt
    have hs2 := hb2.size
    obtain ⟨y0, y1⟩ := g2.c2
    obtain ⟨pf, pfa, pfb, f0⟩ := (sx1.below hb2).at1' (k := 0) (by have := HN.out; omega)
    obtain ⟨pl, pla, plb, z0⟩ := (sx1.below hb2).at1' (k := k - 1) (by have := HN.out; omega)
    have hpf : pf.block < w2.heap.size := by omega
    have hpl : pl.block < w2.heap.size := by omega
    have il : ((k : Int) - 1).toNat = k - 1 := by omega
    obtain ⟨x0, hx0⟩ : ∃ x, g X 0 = x := ⟨_, rfl⟩
    obtain ⟨xl, hxl⟩ : ∃ x, g X (k - 1) = x := ⟨_, rfl⟩
    rw [hx0] at f0
    rw [hxl] at z0
    rw [hx0, hxl] at HE
    clear hx0 hxl
    clear hat
    by_cases h1 : a = 0
    · subst h1
      by_cases h2 : 0 ≤ x0
      · go_wp2
        go_ret
        exact ⟨by rw [HE.out, if_pos (by omega)]; rfl, HB2⟩
      · by_cases h3 : xl ≤ 0
        · go_wp2
          go_ret
          exact ⟨by rw [HE.out, if_pos (by omega)]; rfl, HB2⟩
        · go_wp2
          go_ret
          exact ⟨by rw [HE.out, if_neg (by omega)]; rfl, HB2⟩
    · go_wp2
      go_ret
      exact ⟨by rw [HE.out, if_pos (by omega)]; rfl, HB2⟩
set_option maxRecDepth 100000 in
set_option maxHeartbeats 1600000 in
theorem rcurve_walk (X Y : List Int) (AX AY : Option Addr) (n m cX cY : Nat) (w : World) (SX : Sl w w.heap.size 1 AX (rows X)) (SY : Sl w w.heap.size 1 AY (rows Y)) (hn : n = X.length) (hm : m = Y.length) :
    Calls Try.prog 39 #[.agg #[.slice AX n cX, .slice AY m cY]] w fun e w' => e = .returned (.int .i64 (mcCode X Y)) ∧ Below w.heap.size w w' := by
  have hck := fun (W : World) (h1 : Sl W W.heap.size 1 AX (rows X)) (h2 : Sl W W.heap.size 1 AY (rows Y)) => rcvchk_walk X Y AX AY n m cX cY W h1 h2 hn hm
  have HN := Lib.hid hn
  have HM := Lib.hid hm
  clear hn hm
  have hb0 := (Below.refl w.heap.size w).alloc (Nat.le_refl _) (.cells #[.slice AX n cX, .slice AY m cY] 24)
  have g0 := Blk.new w 24 #[.slice AX n cX, .slice AY m cY]
  have sx0 := (SX.alloc (Nat.le_refl _) (.cells #[.slice AX n cX, .slice AY m cY] 24)).more (show w.heap.size ≤ (w.alloc (.cells #[.slice AX n cX, .slice AY m cY] 24)).heap.size by simp)
  have sy0 := (SY.alloc (Nat.le_refl _) (.cells #[.slice AX n cX, .slice AY m cY] 24)).more (show w.heap.size ≤ (w.alloc (.cells #[.slice AX n cX, .slice AY m cY] 24)).heap.size by simp)
  by_cases hc : cvCode X Y = 0
  case neg =>
    have HC := Lib.hid (mcCode_cv hc)
    obtain ⟨code, hcode⟩ : ∃ x, cvCode X Y = x := ⟨_, rfl⟩
    simp only [hcode] at hck
    rw [hcode] at hc HC
    have HCK := hide hck
    clear hck hcode
    go_enter Try.func39, Try.ntmps39
    go_wp2_with fail
    refine ((unhide HCK) _ sx0 sy0).mono ?_
    rintro e w1 ⟨rfl, hb1⟩
    go_wp2
    go_ret
    exact ⟨by rw [HC.out]; rfl, hb0.trans (hb1.mono hb0.size)⟩
  simp only [hc] at hck
  have HCK := hide hck
  have HO := Lib.hid (cv_ok hc)
  have HC := Lib.hid hc
  clear hck hc
  obtain ⟨ax, rfl⟩ := SX.ptr (by have := HO.out.two; omega)
  obtain ⟨ay, rfl⟩ := SY.ptr (by have := HO.out.two; have := HO.out.len; omega)
  have hnm : m = n := by have := HN.out; have := HM.out; have := HO.out.len; omega
  subst hnm
  have hat := fun (W : World) (h1 : Sl W W.heap.size 1 (some ax) (rows X)) (h2 : Sl W W.heap.size 1 (some ay) (rows Y)) => atR X Y ax ay m cX cY 0 (by omega) W h1 h2 HN.out HO.out
  have HAT := hide hat
  have n2 : 2 ≤ m := by have := HO.out.two; have := HN.out; omega
  have n32 : m ≤ 32 := by have := HO.out.most; have := HN.out; omega
  clear hat
  go_enter Try.func39, Try.ntmps39
  go_wp2_with fail
  refine ((unhide HCK) _ sx0 sy0).mono ?_
  rintro e w1 ⟨rfl, hb1⟩
  have g1 := g0.below hb1 g0.lt
  have HB := hb0.trans (hb1.mono hb0.size)
  have l1 := g1.lt
  obtain ⟨y0, y1⟩ := g1.c2
  clear g0 hb0 sx0 sy0 hb1 HCK
  go_wp2
  go_loopw [5] (fun i wr => ∃ k : Nat, k ≤ m ∧ i = .int .i64 k ∧ Hid (∀ j, j < k → mcE X Y j = 0) ∧ Blk wr w.heap.size 24 #[.slice (some ax) m cX, .slice (some ay) m cY] ∧ Below w.heap.size w wr) (fun i _ => m - (intOf i).toNat)
  case atStart => exact ⟨0, Nat.zero_le _, rfl, (fun j h => by omega), g1, HB⟩
  case round =>
  clear g1 HB y0 y1 l1
  obtain ⟨k, hk, rfl, hg, g1, HB⟩ := hrel
  have l1 := g1.lt
  have hs := HB.size
  obtain ⟨y0, y1⟩ := g1.c2
  by_cases hlt : k < m
  · have hkl : k < X.length := by have := HN.out; omega
    obtain ⟨p, hpa, hpb, c0⟩ := (SX.below HB).at1' hkl
    obtain ⟨q, hqa, hqb, d0⟩ := (SY.below HB).at1' (k := k) (by have := HM.out; omega)
    have hpb1 : p.block < wr.heap.size := by omega
    have hqb1 : q.block < wr.heap.size := by omega
    rcases Bool.eq_false_or_eq_true (wiB (g X k) (-268435456) 268435456) with hw1 | hw1
    · rcases Bool.eq_false_or_eq_true (wiB (g Y k) (-1048576) 1048576) with hw2 | hw2
      · have HE := Lib.hid (show mcE X Y k = 0 by
          unfold mcE
          unfold wiB at hw1 hw2
          rw [decide_eq_true_eq] at hw1 hw2
          rw [if_pos (by omega)])
        go_wp2_with (first | (go_at_call 38; refine (wiR _ _ _ _).mono ?_; rintro e w' ⟨rfl, rfl⟩))
        go_roundw
        case rel => exact ⟨k + 1, by omega, by go_num, (fun j hj => by
          by_cases hjk : j = k
          · subst hjk; exact HE.out
          · exact hg.out j (by omega)), g1, HB⟩
        case measure => simp [intOf]; omega
      · have he : mcE X Y k = 3 := by
          unfold mcE
          unfold wiB at hw2
          rw [decide_eq_false_iff_not] at hw2
          rw [if_neg (by omega)]
        have HE := Lib.hid (show mcCode X Y = 3 by
          have hf := fe_hit hkl hg.out (by rw [he]; decide)
          rw [mcCode_pt HC.out (by rw [hf, he]; decide), hf, he])
        clear he
        go_wp2_with (first | (go_at_call 38; refine (wiR _ _ _ _).mono ?_; rintro e w' ⟨rfl, rfl⟩))
        go_ret
        exact ⟨by rw [HE.out]; rfl, HB⟩
    · have he : mcE X Y k = 3 := by
        unfold mcE
        unfold wiB at hw1
        rw [decide_eq_false_iff_not] at hw1
        rw [if_neg (by omega)]
      have HE := Lib.hid (show mcCode X Y = 3 by
        have hf := fe_hit hkl hg.out (by rw [he]; decide)
        rw [mcCode_pt HC.out (by rw [hf, he]; decide), hf, he])
      clear he
      go_wp2_with (first | (go_at_call 38; refine (wiR _ _ _ _).mono ?_; rintro e w' ⟨rfl, rfl⟩))
      go_ret
      exact ⟨by rw [HE.out]; rfl, HB⟩
  · obtain rfl : k = m := by omega
    have HE := Lib.hid (show mcCode X Y = if 0 ≤ g X 0 ∨ g X (k - 1) ≤ 0 ∨ cvAt X Y 0 ≠ 0 then 2 else 0 by
      rw [mcCode_end HC.out (fe_none fun i hi => hg.out i (by have := HN.out; omega)), ← HN.out])
    have sx1 := (SX.below HB).more hs
    have sy1 := (SY.below HB).more hs
    obtain ⟨a, ha⟩ : ∃ a, cvAt X Y 0 = a := ⟨_, rfl⟩
    have hat := unhide HAT
    simp only [ha] at hat
    rw [ha] at HE
    clear HAT ha
    obtain ⟨pf, pfa, pfb, f0⟩ := sx1.at1' (k := 0) (by have := HN.out; omega)
    obtain ⟨pl, pla, plb, z0⟩ := sx1.at1' (k := k - 1) (by have := HN.out; omega)
    have hpf : pf.block < wr.heap.size := by omega
    have hpl : pl.block < wr.heap.size := by omega
    have il : ((k : Int) - 1).toNat = k - 1 := by omega
    obtain ⟨x0, hx0⟩ : ∃ x, g X 0 = x := ⟨_, rfl⟩
    obtain ⟨xl, hxl⟩ : ∃ x, g X (k - 1) = x := ⟨_, rfl⟩
    rw [hx0] at f0
    rw [hxl] at z0
    rw [hx0, hxl] at HE
    clear hx0 hxl
    by_cases h2 : 0 ≤ x0
    · go_wp2
      go_ret
      exact ⟨by rw [HE.out, if_pos (by omega)]; rfl, HB⟩
    · by_cases h3 : xl ≤ 0
      · go_wp2
        go_ret
        exact ⟨by rw [HE.out, if_pos (by omega)]; rfl, HB⟩
      · go_wp2_with fail
        refine (hat _ sx1 sy1).mono ?_
        rintro e w2 ⟨rfl, hb2⟩
        have HB2 := HB.trans (hb2.mono hs)
        by_cases h1 : a = 0
        · subst h1
          go_wp2
          go_ret
          exact ⟨by rw [HE.out, if_neg (by omega)]; rfl, HB2⟩
        · go_wp2
          go_ret
          exact ⟨by rw [HE.out, if_pos (by omega)]; rfl, HB2⟩
end Go.Proofs.Ytmmplfokidnpnaa
