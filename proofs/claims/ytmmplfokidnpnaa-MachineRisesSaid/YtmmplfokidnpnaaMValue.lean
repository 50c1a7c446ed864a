/- The walks of sort.SearchInts, of a curve's value, and of the reference's. -/
import Derived.Test.YtmmplfokidnpnaaMCheck
import Derived.Test.YtmmplfokidnpnaaMSmall
namespace Go.Proofs.Ytmmplfokidnpnaa
open Go.RowKit

set_option maxRecDepth 100000 in
set_option maxHeartbeats 1600000 in
/-- The least index from which on the numbers of a rising list are at least v. -/
theorem search_walk (X : List Int) (ax : Addr) (n c : Nat) (v : Int) (w : World) (SX : Sl w w.heap.size 1 (some ax) (rows X)) (hn : n = X.length) (hm : n ≤ 1000000) (hinc : ∀ i j, i ≤ j → j < X.length → g X i ≤ g X j) :
    Calls Try.prog 89 #[.slice (some ax) n c, .int .i64 v] w fun e w' => ∃ k : Nat, e = .returned (.int .i64 k) ∧ k ≤ n ∧ (∀ i, i < k → g X i < v) ∧ (∀ i, k ≤ i → i < n → v ≤ g X i) ∧ Below w.heap.size w w' := by
  have HN := Lib.hid hn
  have HI := Lib.hid hinc
  clear hn hinc
  have hmf : ∀ (fn : Fn) (first cap : Array Value) (w : World), (Instr.makeFunc fn first cap).run Try.prog w = .ok (.func fn first cap) w := fun _ _ _ _ => rfl
  have g0 := (Blk.new w 22 #[.slice (some ax) n c]).alloc (.cells #[.int .i64 v] 3)
  have g1 := Blk.new' (w := w.alloc (.cells #[.slice (some ax) n c] 22)) (t := 3) (cs := #[.int .i64 v]) (g := w.heap.size + 1) (by simp)
  have hb0 := ((Below.refl w.heap.size w).alloc (Nat.le_refl _) (.cells #[.slice (some ax) n c] 22)).alloc (by simp) (.cells #[.int .i64 v] 3)
  go_enter Try.func89, Try.ntmps89
  go_wp2
  go_loopw [5, 6] (fun i j wr => ∃ a b : Nat, a ≤ b ∧ b ≤ n ∧ i = .int .i64 a ∧ j = .int .i64 b ∧ Hid (∀ i, i < a → g X i < v) ∧ Hid (∀ i, b ≤ i → i < n → v ≤ g X i) ∧ Blk wr w.heap.size 22 #[.slice (some ax) n c] ∧ Blk wr (w.heap.size + 1) 3 #[.int .i64 v] ∧ Below w.heap.size w wr) (fun i j _ => (intOf j).toNat - (intOf i).toNat)
  case atStart => exact ⟨0, n, Nat.zero_le _, Nat.le_refl _, rfl, rfl, (fun i h => by omega), (fun i h h2 => by omega), g0, g1, hb0⟩
  case round =>
  clear g0 g1 hb0
  obtain ⟨a, b, hab, hbn, rfl, rfl, hlo, hhi, g0, g1, hb⟩ := hrel
  by_cases hlt : a < b
  · obtain ⟨m, hm2⟩ : ∃ m : Nat, (a + b) / 2 = m := ⟨_, rfl⟩
    have hma : a ≤ m := by omega
    have hmb : m < b := by omega
    obtain ⟨p, hpa, hpb, c0⟩ := (SX.below hb).at1' (k := m) (by have := HN.out; omega)
    have hs := hb.size
    have hpb1 : p.block < wr.heap.size := by omega
    have y0 := g0.c1
    have y1 := g1.c1
    have l0 := g0.lt
    have l1 := g1.lt
    have em : ((a : Int) + b) / 2 = (m : Int) := by omega
    have HM := Lib.hid hm2
    clear hm2
    rcases Int.lt_or_le (g X m) v with hv | hv
    · have dv : decide (v ≤ g X m) = false := decide_eq_false (by omega)
      go_wp2
      go_quiet (fail)
      go_wp2
      go_roundw
      case rel => exact ⟨m + 1, b, by omega, hbn, by go_num, rfl, (fun i h => by
        have h1 := HI.out i m (by omega) (by have := HN.out; omega)
        omega), hhi, g0.drewN nq, g1.drewN nq, below_drewN hb nq⟩
      case measure => simp [intOf]; omega
    · have dv : decide (v ≤ g X m) = true := decide_eq_true hv
      go_wp2
      go_quiet (fail)
      go_wp2
      go_roundw
      case rel => exact ⟨a, m, by omega, by omega, rfl, rfl, hlo, (fun i h h2 => by
        have h1 := HI.out m i (by omega) (by have := HN.out; omega)
        omega), g0.drewN nq, g1.drewN nq, below_drewN hb nq⟩
      case measure => simp [intOf]; omega
  · obtain rfl : a = b := by omega
    go_wp2
    go_ret
    exact ⟨a, rfl, hbn, hlo.out, hhi.out, hb⟩
theorem seg_facts {X Y : List Int} (ok : CvOk X Y) {i : Nat} {x : Int} (hi : i < X.length) (hi1 : 1 ≤ i) (h1 : g X (i - 1) ≤ x) (h2 : x ≤ g X i) :
    0 < g X i - g X (i - 1) ∧ g X i - g X (i - 1) ≤ 2147483648 ∧ 0 ≤ g Y i - g Y (i - 1) ∧ g Y i - g Y (i - 1) ≤ 2147483648 ∧ 0 ≤ x - g X (i - 1) ∧ x - g X (i - 1) ≤ 2147483648 ∧
    (-2305843009213693952 ≤ g Y (i - 1) * (g X i - g X (i - 1)) ∧ g Y (i - 1) * (g X i - g X (i - 1)) ≤ 2305843009213693952) ∧
    (-4611686018427387904 ≤ (g Y i - g Y (i - 1)) * (x - g X (i - 1)) ∧ (g Y i - g Y (i - 1)) * (x - g X (i - 1)) ≤ 4611686018427387904) ∧
    -4611686018427387904 ≤ segN X Y i x ∧ segN X Y i x ≤ 4611686018427387904 := by
  have b1 := ok.bd i hi
  have b2 := ok.bd (i - 1) (by omega)
  have b3 := ok.inc (i - 1) (by omega)
  rw [show i - 1 + 1 = i by omega] at b3
  have b4 := segN_bd ok hi hi1 h1 h2
  have m1 := mul_bd (a := g Y (i - 1)) (b := g X i - g X (i - 1)) (A := 1073741824) (B := 2147483648) (by omega) (by omega)
  have m2 := mul_bd (a := g Y i - g Y (i - 1)) (b := x - g X (i - 1)) (A := 2147483648) (B := 2147483648) (by omega) (by omega)
  have m3 := mul_bd (a := g Y i) (b := g X i - g X (i - 1)) (A := 1073741824) (B := 2147483648) (by omega) (by omega)
  refine ⟨by omega, by omega, by omega, by omega, by omega, by omega, by omega, by omega, by omega, by omega⟩
set_option maxRecDepth 100000 in
set_option maxHeartbeats 1600000 in
theorem valueM (X Y : List Int) (ax ay : Addr) (n cX cY : Nat) (x : Int) (hx : -4294967296 ≤ x ∧ x ≤ 4294967296) (w : World) (SX : Sl w w.heap.size 1 (some ax) (rows X)) (SY : Sl w w.heap.size 1 (some ay) (rows Y)) (hn : n = X.length) (ok : CvOk X Y) :
    Calls Try.prog 85 #[.agg #[.slice (some ax) n cX, .slice (some ay) n cY], .int .i64 x] w fun e w' => ∃ num den : Int, e = .returned (.tuple #[.int .i64 num, .int .i64 den]) ∧ 0 < den ∧ num.tdiv den = cvAt X Y x ∧ -4611686018427387904 ≤ num ∧ num ≤ 4611686018427387904 ∧ Below w.heap.size w w' := by
  have HN := Lib.hid hn
  have two := ok.two
  have most := ok.most
  rw [← hn] at two most
  clear hn
  have HO := Lib.hid ok
  have hl : n - 1 < X.length := by have := HN.out; omega
  have hlY : Y.length = n := by rw [← HO.out.len]; exact HN.out.symm
  have HLY := Lib.hid hlY
  clear ok hlY
  obtain ⟨hx1, hx2⟩ := hx
  have hb0 := (Below.refl w.heap.size w).alloc (Nat.le_refl _) (.cells #[.slice (some ax) n cX, .slice (some ay) n cY] 24)
  have g0 := Blk.new w 24 #[.slice (some ax) n cX, .slice (some ay) n cY]
  obtain ⟨pf, pfa, pfb, f0⟩ := SX.at1' (k := 0) (by have := HN.out; omega)
  obtain ⟨pl, pla, plb, z0⟩ := SX.at1' (k := n - 1) hl
  obtain ⟨qf, qfa, qfb, f1⟩ := SY.at1' (k := 0) (by have := HLY.out; omega)
  obtain ⟨ql, qla, qlb, z1⟩ := SY.at1' (k := n - 1) (by have := HLY.out; omega)
  have il : ((n : Int) - 1).toNat = n - 1 := by omega
  have bf := HO.out.bd 0 (by have := HN.out; omega)
  have bl := HO.out.bd (n - 1) hl
  obtain ⟨bf1, bf2, bf3, bf4⟩ := bf
  obtain ⟨bl1, bl2, bl3, bl4⟩ := bl
  by_cases h1 : x ≤ g X 0
  · have HA := Lib.hid (at_first (Y := Y) h1)
    go_enter Try.func85, Try.ntmps85
    go_wp2
    go_ret2
    exact ⟨g Y 0, 1, rfl, by omega, by rw [HA.out, Int.tdiv_one], by omega, by omega, hb0⟩
  by_cases h2 : g X (n - 1) ≤ x
  · have HA := Lib.hid (show cvAt X Y x = g Y (n - 1) by
      have := at_last HO.out (x := x) (by rw [← HN.out]; exact h2)
      rw [this, ← HN.out])
    go_enter Try.func85, Try.ntmps85
    go_wp2
    go_ret2
    exact ⟨g Y (n - 1), 1, rfl, by omega, by rw [HA.out, Int.tdiv_one], by omega, by omega, hb0⟩
  · have hse := fun (W : World) (h : Sl W W.heap.size 1 (some ax) (rows X)) => search_walk X ax n cX (x + 1) W h HN.out (by omega) (fun i j hij hj => (mono_le HO.out hij hj).1)
    have HSE := hide hse
    clear hse
    have sx0 := (SX.alloc (Nat.le_refl _) (.cells #[.slice (some ax) n cX, .slice (some ay) n cY] 24)).more (show w.heap.size ≤ (w.alloc (.cells #[.slice (some ax) n cX, .slice (some ay) n cY] 24)).heap.size by simp)
    go_enter Try.func85, Try.ntmps85
    go_wp2_with fail
    refine ((unhide HSE) _ sx0).mono ?_
    rintro e w1 ⟨k, rfl, hkn, hlo, hhi, hb1⟩
    have HB := hb0.trans (hb1.mono hb0.size)
    have g1 := g0.below hb1 g0.lt
    have l1 := g1.lt
    obtain ⟨y0, y1⟩ := g1.c2
    have hk1 : 1 ≤ k := by
      by_cases h : k = 0
      · have := hhi 0 (by omega) (by omega); omega
      · omega
    have hk2 : k < n := by
      by_cases h : k = n
      · have := hlo (n - 1) (by omega); omega
      · omega
    have h3 := hlo (k - 1) (by omega)
    have h4 := hhi k (Nat.le_refl _) hk2
    have h3' : g X (k - 1) ≤ x := by omega
    have h4' : x < g X k := by omega
    clear hlo hhi hb1 g0 hb0 sx0 HSE h3 h4
    obtain ⟨pk, pka, pkb, k0⟩ := (SX.below HB).at1' (k := k) (by have := HN.out; omega)
    obtain ⟨pj, pja, pjb, j0⟩ := (SX.below HB).at1' (k := k - 1) (by have := HN.out; omega)
    obtain ⟨qk, qka, qkb, k1⟩ := (SY.below HB).at1' (k := k) (by have := HLY.out; omega)
    obtain ⟨qj, qja, qjb, j1⟩ := (SY.below HB).at1' (k := k - 1) (by have := HLY.out; omega)
    have hs := HB.size
    have hpk : pk.block < w1.heap.size := by omega
    have hpj : pj.block < w1.heap.size := by omega
    have hqk : qk.block < w1.heap.size := by omega
    have hqj : qj.block < w1.heap.size := by omega
    have ik : ((k : Int) - 1).toNat = k - 1 := by omega
    obtain ⟨s1, s2, s3, s4, s5, s6, ⟨s7, s8⟩, ⟨s9, sa⟩, sb, sc⟩ := seg_facts HO.out (i := k) (x := x) (by have := HN.out; omega) (by omega) (by omega) (by omega)
    have hsg : cvAt X Y x = seg X Y k x := at_from HO.out (by have := HN.out; omega) hk1 h3' h4'
    have hsn : segN X Y k x = g Y (k - 1) * (g X k - g X (k - 1)) + (g Y k - g Y (k - 1)) * (x - g X (k - 1)) := rfl
    have b1 := HO.out.bd k (by have := HN.out; omega)
    have b2 := HO.out.bd (k - 1) (by have := HN.out; omega)
    have hsd : seg X Y k x = (segN X Y k x).tdiv (g X k - g X (k - 1)) := rfl
    rw [hsd] at hsg
    obtain ⟨N, hN⟩ : ∃ N, segN X Y k x = N := ⟨_, rfl⟩
    obtain ⟨xk, hxk⟩ : ∃ N, g X k = N := ⟨_, rfl⟩
    obtain ⟨xj, hxj⟩ : ∃ N, g X (k - 1) = N := ⟨_, rfl⟩
    obtain ⟨yk, hyk⟩ : ∃ N, g Y k = N := ⟨_, rfl⟩
    obtain ⟨yj, hyj⟩ : ∃ N, g Y (k - 1) = N := ⟨_, rfl⟩
    rw [hN] at hsn hsg sb sc
    simp only [hxk, hxj, hyk, hyj] at k0 k1 j0 j1 s1 s2 s3 s4 s5 s6 s7 s8 s9 sa hsn hsg b1 b2 h3' h4'
    obtain ⟨b11, b12, b13, b14⟩ := b1
    obtain ⟨b21, b22, b23, b24⟩ := b2
    have e1 : IntKind.i64.wrap (yj * (xk - xj)) = yj * (xk - xj) := IntWalk.i64_in _ (by omega)
    have e2 : IntKind.i64.wrap ((yk - yj) * (x - xj)) = (yk - yj) * (x - xj) := IntWalk.i64_in _ (by omega)
    have e3 : IntKind.i64.wrap (yj * (xk - xj) + (yk - yj) * (x - xj)) = N := by rw [← hsn]; exact IntWalk.i64_in _ (by omega)
    have HSG := Lib.hid hsg
    clear hsg hsn hN hxk hxj hyk hyj s7 s8 s9 sa hsd
    go_wp2
    go_quiet (fail)
    go_wp2
    go_quiet (fail)
    go_wp2
    go_ret2
    exact ⟨N, xk - xj, rfl, s1, HSG.out.symm, sb, sc, below_drewN (below_drewN HB _) _⟩
set_option maxRecDepth 100000 in
set_option maxHeartbeats 1600000 in
theorem valueR (X Y : List Int) (ax ay : Addr) (n cX cY : Nat) (x : Int) (hx : -4294967296 ≤ x ∧ x ≤ 4294967296) (w : World) (SX : Sl w w.heap.size 1 (some ax) (rows X)) (SY : Sl w w.heap.size 1 (some ay) (rows Y)) (hn : n = X.length) (ok : CvOk X Y) :
    Calls Try.prog 70 #[.agg #[.slice (some ax) n cX, .slice (some ay) n cY], .int .i64 x] w fun e w' => ∃ num den : Int, e = .returned (.tuple #[.int .i64 num, .int .i64 den]) ∧ 0 < den ∧ num.tdiv den = cvAt X Y x ∧ -4611686018427387904 ≤ num ∧ num ≤ 4611686018427387904 ∧ Below w.heap.size w w' := by
  have HN := Lib.hid hn
  have two := ok.two
  have most := ok.most
  rw [← hn] at two most
  clear hn
  have HO := Lib.hid ok
  have hl : n - 1 < X.length := by have := HN.out; omega
  have hlY : Y.length = n := by rw [← HO.out.len]; exact HN.out.symm
  have HLY := Lib.hid hlY
  clear ok hlY
  obtain ⟨hx1, hx2⟩ := hx
  have hb0 := (Below.refl w.heap.size w).alloc (Nat.le_refl _) (.cells #[.slice (some ax) n cX, .slice (some ay) n cY] 24)
  have g0 := Blk.new w 24 #[.slice (some ax) n cX, .slice (some ay) n cY]
  obtain ⟨pf, pfa, pfb, f0⟩ := SX.at1' (k := 0) (by have := HN.out; omega)
  obtain ⟨pl, pla, plb, z0⟩ := SX.at1' (k := n - 1) hl
  obtain ⟨qf, qfa, qfb, f1⟩ := SY.at1' (k := 0) (by have := HLY.out; omega)
  obtain ⟨ql, qla, qlb, z1⟩ := SY.at1' (k := n - 1) (by have := HLY.out; omega)
  have il : ((n : Int) - 1).toNat = n - 1 := by omega
  have bf := HO.out.bd 0 (by have := HN.out; omega)
  have bl := HO.out.bd (n - 1) hl
  obtain ⟨bf1, bf2, bf3, bf4⟩ := bf
  obtain ⟨bl1, bl2, bl3, bl4⟩ := bl
  by_cases h1 : x ≤ g X 0
  · have HA := Lib.hid (at_first (Y := Y) h1)
    go_enter Try.func70, Try.ntmps70
    go_wp2
    go_ret2
    exact ⟨g Y 0, 1, rfl, by omega, by rw [HA.out, Int.tdiv_one], by omega, by omega, hb0⟩
  · go_enter Try.func70, Try.ntmps70
    go_wp2
    go_loopw [7] (fun i wr => ∃ k : Nat, 1 ≤ k ∧ k ≤ n ∧ i = .int .i64 k ∧ Hid (g X (k - 1) < x) ∧ Blk wr w.heap.size 24 #[.slice (some ax) n cX, .slice (some ay) n cY] ∧ Below w.heap.size w wr) (fun i _ => n - (intOf i).toNat)
    case atStart => exact ⟨1, by omega, by omega, rfl, (by show g X (1 - 1) < x; rw [show 1 - 1 = 0 from rfl]; omega), g0, hb0⟩
    case round =>
    clear g0 hb0
    obtain ⟨k, hk1, hkn, rfl, hlt0, g1, HB⟩ := hrel
    have l1 := g1.lt
    obtain ⟨y0, y1⟩ := g1.c2
    by_cases hk2 : k < n
    · by_cases h4' : x ≤ g X k
      · have h3' := hlt0.out
        clear hlt0
        obtain ⟨pk, pka, pkb, k0⟩ := (SX.below HB).at1' (k := k) (by have := HN.out; omega)
        obtain ⟨pj, pja, pjb, j0⟩ := (SX.below HB).at1' (k := k - 1) (by have := HN.out; omega)
        obtain ⟨qk, qka, qkb, k1⟩ := (SY.below HB).at1' (k := k) (by have := HLY.out; omega)
        obtain ⟨qj, qja, qjb, j1⟩ := (SY.below HB).at1' (k := k - 1) (by have := HLY.out; omega)
        have hs := HB.size
        have hpk : pk.block < wr.heap.size := by omega
        have hpj : pj.block < wr.heap.size := by omega
        have hqk : qk.block < wr.heap.size := by omega
        have hqj : qj.block < wr.heap.size := by omega
        have ik : ((k : Int) - 1).toNat = k - 1 := by omega
        obtain ⟨s1, s2, s3, s4, s5, s6, ⟨s7, s8⟩, ⟨s9, sa⟩, sb, sc⟩ := seg_facts HO.out (i := k) (x := x) (by have := HN.out; omega) (by omega) (by omega) (by omega)
        have hsg : cvAt X Y x = seg X Y k x := at_in HO.out (by have := HN.out; omega) hk1 h3' h4'
        have hsn : segN X Y k x = g Y (k - 1) * (g X k - g X (k - 1)) + (g Y k - g Y (k - 1)) * (x - g X (k - 1)) := rfl
        have b1 := HO.out.bd k (by have := HN.out; omega)
        have b2 := HO.out.bd (k - 1) (by have := HN.out; omega)
        have hsd : seg X Y k x = (segN X Y k x).tdiv (g X k - g X (k - 1)) := rfl
        rw [hsd] at hsg
        obtain ⟨N, hN⟩ : ∃ N, segN X Y k x = N := ⟨_, rfl⟩
        obtain ⟨xk, hxk⟩ : ∃ N, g X k = N := ⟨_, rfl⟩
        obtain ⟨xj, hxj⟩ : ∃ N, g X (k - 1) = N := ⟨_, rfl⟩
        obtain ⟨yk, hyk⟩ : ∃ N, g Y k = N := ⟨_, rfl⟩
        obtain ⟨yj, hyj⟩ : ∃ N, g Y (k - 1) = N := ⟨_, rfl⟩
        rw [hN] at hsn hsg sb sc
        simp only [hxk, hxj, hyk, hyj] at k0 k1 j0 j1 s1 s2 s3 s4 s5 s6 s7 s8 s9 sa hsn hsg b1 b2 h3' h4'
        obtain ⟨b11, b12, b13, b14⟩ := b1
        obtain ⟨b21, b22, b23, b24⟩ := b2
        have e1 : IntKind.i64.wrap (yj * (xk - xj)) = yj * (xk - xj) := IntWalk.i64_in _ (by omega)
        have e2 : IntKind.i64.wrap ((yk - yj) * (x - xj)) = (yk - yj) * (x - xj) := IntWalk.i64_in _ (by omega)
        have e3 : IntKind.i64.wrap (yj * (xk - xj) + (yk - yj) * (x - xj)) = N := by rw [← hsn]; exact IntWalk.i64_in _ (by omega)
        have HSG := Lib.hid hsg
        clear hsg hsn hN hxk hxj hyk hyj s7 s8 s9 sa hsd
        go_wp2
        go_quiet (fail)
        go_wp2
        go_quiet (fail)
        go_wp2
        go_ret2
        exact ⟨N, xk - xj, rfl, s1, HSG.out.symm, sb, sc, below_drewN (below_drewN HB _) _⟩
      · obtain ⟨pk, pka, pkb, k0⟩ := (SX.below HB).at1' (k := k) (by have := HN.out; omega)
        have hs := HB.size
        have hpk : pk.block < wr.heap.size := by omega
        go_wp2
        go_roundw
        case rel => exact ⟨k + 1, by omega, by omega, by go_num, (by show g X (k + 1 - 1) < x; rw [show k + 1 - 1 = k from rfl]; omega), g1, HB⟩
        case measure => simp [intOf]; omega
    · obtain rfl : k = n := by omega
      have HA := Lib.hid (show cvAt X Y x = g Y (k - 1) by
        have := at_last HO.out (x := x) (by rw [← HN.out]; exact Int.le_of_lt hlt0.out)
        rw [this, ← HN.out])
      have hs := HB.size
      clear qla qlb z1
      obtain ⟨ql', qla', qlb', z1'⟩ := (SY.below HB).at1' (k := k - 1) (by have := HLY.out; omega)
      have hql' : ql'.block < wr.heap.size := by omega
      go_wp2
      go_ret2
      exact ⟨g Y (k - 1), 1, rfl, by omega, by rw [HA.out, Int.tdiv_one], by omega, by omega, HB⟩
end Go.Proofs.Ytmmplfokidnpnaa
