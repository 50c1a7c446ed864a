/- The walks of sine and cosine, and of the turn of a vector. The walks of the turn of a vector, and of the reference's. -/
import Derived.Test.YtpfkiohknpeifaaGreatMcA
import Derived.OwnWalk
namespace Go.Proofs.YtpfkiohknpeifaaGreat
open Go.RowKit

theorem Sl.of_block {w : World} {g size B : Nat} {e : TypeId} {cs : Array Value} {rs : List (List Value)} (h : Blk w g e cs) (hf : rs.flatten = cs.toList) (hl : ∀ r ∈ rs, r.length = size) (hB : g < B) : Sl w B size (some ⟨g, 0, none⟩) rs :=
  ⟨hl, fun _ => ⟨_, rfl, hB, fun k r hr j u hu => by
    have := flat_get size rs hl k r hr j u hu
    rw [hf, Array.getElem?_toList] at this
    have h2 := h.cell (k * size + j)
    rw [this] at h2
    show w.cell? (Addr.add ⟨g, 0, none⟩ (k * size + j)) = some u
    rw [← h2]
    congr 1
    unfold Addr.add
    split
    · rename_i h0; rw [h0]
    · simp⟩⟩
theorem rows_len (X : List Int) : ∀ r ∈ rows X, r.length = 1 := by
  intro r hr
  obtain ⟨v, _, rfl⟩ := List.mem_map.1 hr
  rfl
set_option maxRecDepth 100000 in
theorem tblM (w : World) : Calls Tryz.prog 155 #[] w fun e w' => ∃ ad, e = .returned (.slice (some ad) 65 65) ∧ Sl w' w'.heap.size 1 (some ad) (rows tbl) ∧ Below w.heap.size w w' := by
  go_enter Tryz.func155, Tryz.ntmps155
  go_wp2
  go_ret
  exact ⟨_, rfl, Sl.of_block (Blk.new _ _ _) rfl (rows_len _) (by simp), (Below.refl _ _).alloc (Nat.le_refl _) _⟩
set_option maxRecDepth 100000 in
theorem tblR (w : World) : Calls Tryz.prog 149 #[] w fun e w' => ∃ ad, e = .returned (.slice (some ad) 65 65) ∧ Sl w' w'.heap.size 1 (some ad) (rows tbl) ∧ Below w.heap.size w w' := by
  go_enter Tryz.func149, Tryz.ntmps149
  go_wp2
  go_ret
  exact ⟨_, rfl, Sl.of_block (Blk.new _ _ _) rfl (rows_len _) (by simp), (Below.refl _ _).alloc (Nat.le_refl _) _⟩
theorem gT (k : Nat) : g tbl k = T k := rfl
theorem wr_in {x A : Int} (h : -A ≤ x ∧ x ≤ A) (hA : A ≤ 9223372036854775807) : IntKind.i64.wrap x = x := IntWalk.i64_in _ (by omega)
theorem first_walk (k f : Nat) (hk : k < 64) (hf : f < 256) (a : Int) (ha : a = 256 * k + f) (w : World) :
    Calls Tryz.prog 151 #[.int .i64 a] w fun e w' => e = .returned (.tuple #[.int .i64 (cs k f), .int .i64 (sn k f)]) ∧ Below w.heap.size w w' := by
  have hq : a / 256 = (k : Int) := by omega
  have hr : a % 256 = (f : Int) := by omega
  have ha0 : 0 ≤ a := by omega
  have ha1 : a < 16384 := by omega
  have hq2 : a.tdiv 256 = (k : Int) := by rw [Int.tdiv_eq_ediv_of_nonneg ha0]; exact hq
  have hr2 : a.tmod 256 = (f : Int) := by rw [tmod_pos ha0]; exact hr
  clear ha
  have hcs : cs k f = (256 * T (64 - k) - (T (64 - k) - T (63 - k)) * f).tdiv 256 := rfl
  have hsn : sn k f = (256 * T k + (T (k + 1) - T k) * f).tdiv 256 := rfl
  have b0 := T_bd (k := k) (by omega)
  have b1 := T_bd (k := k + 1) (by omega)
  have b2 := T_bd (k := 64 - k) (by omega)
  have b3 := T_bd (k := 63 - k) (by omega)
  have m1 := mul_bd (a := T (k + 1) - T k) (b := f) (A := 32768) (B := 256) (by omega) (by omega)
  have m2 := mul_bd (a := T (64 - k) - T (63 - k)) (b := f) (A := 32768) (B := 256) (by omega) (by omega)
  obtain ⟨t0, h0⟩ : ∃ t, T k = t := ⟨_, rfl⟩
  obtain ⟨t1, h1⟩ : ∃ t, T (k + 1) = t := ⟨_, rfl⟩
  obtain ⟨t2, h2⟩ : ∃ t, T (64 - k) = t := ⟨_, rfl⟩
  obtain ⟨t3, h3⟩ : ∃ t, T (63 - k) = t := ⟨_, rfl⟩
  rw [h0, h1] at hsn m1
  rw [h2, h3] at hcs m2
  rw [h0] at b0
  rw [h1] at b1
  rw [h2] at b2
  rw [h3] at b3
  obtain ⟨b0a, b0b⟩ := b0
  obtain ⟨b1a, b1b⟩ := b1
  obtain ⟨b2a, b2b⟩ := b2
  obtain ⟨b3a, b3b⟩ := b3
  have e1 : IntKind.i64.wrap ((t1 - t0) * f) = (t1 - t0) * f := IntWalk.i64_in _ (by omega)
  have e2 : IntKind.i64.wrap ((t2 - t3) * f) = (t2 - t3) * f := IntWalk.i64_in _ (by omega)
  have e3 : IntKind.i64.wrap (256 * t0 + (t1 - t0) * f) = 256 * t0 + (t1 - t0) * f := IntWalk.i64_in _ (by omega)
  have e4 : IntKind.i64.wrap (256 * t2 - (t2 - t3) * f) = 256 * t2 - (t2 - t3) * f := IntWalk.i64_in _ (by omega)
  have d0 := tdiv_in (a := 256 * t0 + (t1 - t0) * f) (b := 256) (A := -65536) (B := 65536) (by omega) (by omega) (by omega)
  have d2 := tdiv_in (a := 256 * t2 - (t2 - t3) * f) (b := 256) (A := -65536) (B := 65536) (by omega) (by omega) (by omega)
  obtain ⟨s0, hs0⟩ : ∃ s, (256 * t0 + (t1 - t0) * f).tdiv 256 = s := ⟨_, rfl⟩
  obtain ⟨s2, hs2⟩ : ∃ s, (256 * t2 - (t2 - t3) * f).tdiv 256 = s := ⟨_, rfl⟩
  rw [hs0] at d0 hsn
  rw [hs2] at d2 hcs
  obtain ⟨d0a, d0b⟩ := d0
  obtain ⟨d2a, d2b⟩ := d2
  have HC := Lib.hid hcs
  have HS := Lib.hid hsn
  have HT0 := Lib.hid h0
  have HT1 := Lib.hid h1
  have HT2 := Lib.hid h2
  have HT3 := Lib.hid h3
  clear hcs hsn h0 h1 h2 h3 m1 m2
  go_enter Tryz.func151, Tryz.ntmps151
  go_wp2_with fail
  refine (tblM _).mono ?_
  rintro e w1 ⟨ad, rfl, hS, hb⟩
  obtain ⟨p0, q0, r0, c0⟩ := hS.at1' (k := k) (by show k < 65; omega)
  obtain ⟨p1, q1, r1, c1⟩ := hS.at1' (k := k + 1) (by show k + 1 < 65; omega)
  obtain ⟨p2, q2, r2, c2⟩ := hS.at1' (k := 64 - k) (by show 64 - k < 65; omega)
  obtain ⟨p3, q3, r3, c3⟩ := hS.at1' (k := 63 - k) (by show 63 - k < 65; omega)
  rw [gT, HT0.out] at c0
  rw [gT, HT1.out] at c1
  rw [gT, HT2.out] at c2
  rw [gT, HT3.out] at c3
  have i1 : ((k : Int) + 1).toNat = k + 1 := by omega
  have i2 : ((64 : Int) - k).toNat = 64 - k := by omega
  have i3 : ((63 : Int) - k).toNat = 63 - k := by omega
  clear hS
  go_wp2
  go_quiet (fail)
  go_wp2
  go_quiet (fail)
  go_wp2
  go_ret2
  refine ⟨?_, below_drewN (below_drewN hb _) _⟩
  rw [HC.out, HS.out]
  rfl
theorem split_a (n : Int) : ∃ k f q : Nat, k < 64 ∧ f < 256 ∧ q < 4 ∧ n % 65536 = 16384 * q + (256 * k + f) ∧ ((n % 16384) / 256).toNat = k ∧ n % 256 = f ∧ (n % 65536 / 16384).toNat = q :=
  ⟨((n % 16384) / 256).toNat, (n % 256).toNat, (n % 65536 / 16384).toNat, by omega, by omega, by omega, by omega, rfl, by omega, rfl⟩
theorem bothM (n : Int) (w : World) :
    Calls Tryz.prog 143 #[.int .i64 n] w fun e w' => e = .returned (.tuple #[.int .i64 (cosA n), .int .i64 (sinA n)]) ∧ Below w.heap.size w w' := by
  obtain ⟨k, f, q, hk, hf, hq, hn, h1, h2, h3⟩ := split_a n
  have hfi := fun W => first_walk k f hk hf (256 * k + f) rfl W
  have hno := fun W => normM n W
  have bs := sn_bd hk (f := f) (by omega)
  have bc := cs_bd hk (f := f) (by omega)
  have hc : cosA n = cq q (sn k f) (cs k f) := by unfold cosA; rw [h1, h2, h3]
  have hs : sinA n = sq q (sn k f) (cs k f) := by unfold sinA; rw [h1, h2, h3]
  obtain ⟨S, hS⟩ : ∃ s, sn k f = s := ⟨_, rfl⟩
  obtain ⟨C, hC⟩ : ∃ s, cs k f = s := ⟨_, rfl⟩
  rw [hS] at bs
  rw [hC] at bc
  simp only [hS, hC] at hfi hc hs
  obtain ⟨bs1, bs2⟩ := bs
  obtain ⟨bc1, bc2⟩ := bc
  obtain ⟨b, hb⟩ : ∃ b, n % 65536 = b := ⟨_, rfl⟩
  rw [hb] at hno hn
  obtain ⟨r, hr⟩ : ∃ r : Int, 256 * (k : Int) + f = r := ⟨_, rfl⟩
  rw [hr] at hn
  simp only [hr] at hfi
  have hb0 : 0 ≤ b := by omega
  have hb1 : b < 65536 := by omega
  have e1 : b.tmod 16384 = r := by rw [tmod_pos hb0]; omega
  have e2 : b.tdiv 16384 = (q : Int) := by rw [Int.tdiv_eq_ediv_of_nonneg hb0]; omega
  have e3 : b % 16384 = r := by omega
  have e4 : b / 16384 = (q : Int) := by omega
  have hr0 : 0 ≤ r ∧ r < 16384 := by omega
  obtain ⟨hr1, hr2⟩ := hr0
  have HC := Lib.hid hc
  have HS := Lib.hid hs
  have HFI := hide hfi
  have HNO := hide hno
  clear hc hs hfi hno hn hr h1 h2 h3 hb hS hC
  have hq4 : q = 0 ∨ q = 1 ∨ q = 2 ∨ q = 3 := by omega
  rcases hq4 with rfl | rfl | rfl | rfl
  all_goals
    go_enter Tryz.func143, Tryz.ntmps143
    go_wp2_with fail
    refine ((unhide HNO) _).mono ?_
    rintro e w1 ⟨rfl, rfl⟩
    go_wp2_with fail
    refine ((unhide HFI) _).mono ?_
    rintro e w1 ⟨rfl, hb⟩
    go_wp2
    go_ret2
    refine ⟨?_, hb⟩
    rw [HC.out, HS.out]
    rfl
theorem bothR (n : Int) (w : World) :
    Calls Tryz.prog 139 #[.int .i64 n] w fun e w' => e = .returned (.tuple #[.int .i64 (cosA n), .int .i64 (sinA n)]) ∧ Below w.heap.size w w' := by
  obtain ⟨k, f, q, hk, hf, hq, hn, h1, h2, h3⟩ := split_a n
  have hno := fun W => normR n W
  have bs := sn_bd hk (f := f) (by omega)
  have bc := cs_bd hk (f := f) (by omega)
  have hc : cosA n = cq q (sn k f) (cs k f) := by unfold cosA; rw [h1, h2, h3]
  have hs : sinA n = sq q (sn k f) (cs k f) := by unfold sinA; rw [h1, h2, h3]
  have hsn : sn k f = (256 * T k + (T (k + 1) - T k) * f).tdiv 256 := rfl
  have hcs : cs k f = (256 * T (64 - k) - (T (64 - k) - T (63 - k)) * f).tdiv 256 := rfl
  have p1 : T k * (256 - f) + T (k + 1) * f = 256 * T k + (T (k + 1) - T k) * f := by
    rw [Int.mul_sub, Int.sub_mul, Int.mul_comm (T k) 256]; omega
  have p2 : T (64 - k) * (256 - f) + T (63 - k) * f = 256 * T (64 - k) - (T (64 - k) - T (63 - k)) * f := by
    rw [Int.mul_sub, Int.sub_mul, Int.mul_comm (T (64 - k)) 256]; omega
  rw [← p1] at hsn
  rw [← p2] at hcs
  clear p1 p2
  have b0 := T_bd (k := k) (by omega)
  have b1 := T_bd (k := k + 1) (by omega)
  have b2 := T_bd (k := 64 - k) (by omega)
  have b3 := T_bd (k := 63 - k) (by omega)
  obtain ⟨t0, h0⟩ : ∃ t, T k = t := ⟨_, rfl⟩
  obtain ⟨t1, h1'⟩ : ∃ t, T (k + 1) = t := ⟨_, rfl⟩
  obtain ⟨t2, h2'⟩ : ∃ t, T (64 - k) = t := ⟨_, rfl⟩
  obtain ⟨t3, h3'⟩ : ∃ t, T (63 - k) = t := ⟨_, rfl⟩
  rw [h0, h1'] at hsn
  rw [h2', h3'] at hcs
  rw [h0] at b0
  rw [h1'] at b1
  rw [h2'] at b2
  rw [h3'] at b3
  have m0 := mul_bd (a := t0) (b := 256 - f) (A := 32768) (B := 256) (by omega) (by omega)
  have m1 := mul_bd (a := t1) (b := f) (A := 32768) (B := 256) (by omega) (by omega)
  have m2 := mul_bd (a := t2) (b := 256 - f) (A := 32768) (B := 256) (by omega) (by omega)
  have m3 := mul_bd (a := t3) (b := f) (A := 32768) (B := 256) (by omega) (by omega)
  have e11 : IntKind.i64.wrap (t0 * (256 - f)) = t0 * (256 - f) := IntWalk.i64_in _ (by omega)
  have e12 : IntKind.i64.wrap (t1 * f) = t1 * f := IntWalk.i64_in _ (by omega)
  have e13 : IntKind.i64.wrap (t2 * (256 - f)) = t2 * (256 - f) := IntWalk.i64_in _ (by omega)
  have e14 : IntKind.i64.wrap (t3 * f) = t3 * f := IntWalk.i64_in _ (by omega)
  have e15 : IntKind.i64.wrap (t0 * (256 - f) + t1 * f) = t0 * (256 - f) + t1 * f := IntWalk.i64_in _ (by omega)
  have e16 : IntKind.i64.wrap (t2 * (256 - f) + t3 * f) = t2 * (256 - f) + t3 * f := IntWalk.i64_in _ (by omega)
  have HT0 := Lib.hid h0
  have HT1 := Lib.hid h1'
  have HT2 := Lib.hid h2'
  have HT3 := Lib.hid h3'
  clear h0 h1' h2' h3' m0 m1 m2 m3 b0 b1 b2 b3
  obtain ⟨S, hS⟩ : ∃ s, sn k f = s := ⟨_, rfl⟩
  obtain ⟨C, hC⟩ : ∃ s, cs k f = s := ⟨_, rfl⟩
  rw [hS] at bs hsn
  rw [hC] at bc hcs
  have hsn' := hsn.symm
  have hcs' := hcs.symm
  clear hsn hcs
  simp only [hS, hC] at hc hs
  obtain ⟨bs1, bs2⟩ := bs
  obtain ⟨bc1, bc2⟩ := bc
  obtain ⟨b, hb⟩ : ∃ b, n % 65536 = b := ⟨_, rfl⟩
  rw [hb] at hno hn
  obtain ⟨r, hr⟩ : ∃ r : Int, 256 * (k : Int) + f = r := ⟨_, rfl⟩
  rw [hr] at hn
  have hb0 : 0 ≤ b := by omega
  have hb1 : b < 65536 := by omega
  have e1 : b.tmod 16384 = r := by rw [tmod_pos hb0]; omega
  have e2 : b.tdiv 16384 = (q : Int) := by rw [Int.tdiv_eq_ediv_of_nonneg hb0]; omega
  have e3 : b % 16384 = r := by omega
  have e4 : b / 16384 = (q : Int) := by omega
  have hr0 : 0 ≤ r ∧ r < 16384 := by omega
  obtain ⟨hr1, hr2⟩ := hr0
  have HC := Lib.hid hc
  have HS := Lib.hid hs
  have HNO := hide hno
  have e5 : r / 256 = (k : Int) := by omega
  have e6 : r.tdiv 256 = (k : Int) := by rw [Int.tdiv_eq_ediv_of_nonneg hr1]; exact e5
  have e7 : b % 256 = (f : Int) := by omega
  have e8 : b.tmod 256 = (f : Int) := by rw [tmod_pos hb0]; exact e7
  clear hc hs hno hn hr h1 h2 h3 hb hS hC
  have i1 : ((k : Int) + 1).toNat = k + 1 := by omega
  have i2 : ((64 : Int) - k).toNat = 64 - k := by omega
  have i3 : ((63 : Int) - k).toNat = 63 - k := by omega
  go_enter Tryz.func139, Tryz.ntmps139
  go_wp2_with fail
  refine (tblR _).mono ?_
  rintro e w1 ⟨ad, rfl, hT, hb⟩
  obtain ⟨p0, q0, r0, c0⟩ := hT.at1' (k := k) (by show k < 65; omega)
  obtain ⟨p1, q1, r1, c1⟩ := hT.at1' (k := k + 1) (by show k + 1 < 65; omega)
  obtain ⟨p2, q2, r2, c2⟩ := hT.at1' (k := 64 - k) (by show 64 - k < 65; omega)
  obtain ⟨p3, q3, r3, c3⟩ := hT.at1' (k := 63 - k) (by show 63 - k < 65; omega)
  rw [gT, HT0.out] at c0
  rw [gT, HT1.out] at c1
  rw [gT, HT2.out] at c2
  rw [gT, HT3.out] at c3
  clear hT
  go_wp2_with fail
  refine ((unhide HNO) _).mono ?_
  rintro e w2 ⟨rfl, rfl⟩
  go_wp2
  go_quiet (fail)
  go_wp2
  go_quiet (fail)
  go_wp2
  go_loopw [7, 8, 52] (fun x y i wr => ∃ j : Nat, j ≤ q ∧ i = .int .i64 j ∧ x = .int .i64 (sq j S C) ∧ y = .int .i64 (cq j S C) ∧ Below w.heap.size w wr) (fun _ _ i _ => q - (intOf i).toNat)
  case atStart => exact ⟨0, Nat.zero_le _, rfl, rfl, rfl, below_drewN hb _⟩
  case round =>
  clear hb c0 c1 c2 c3
  obtain ⟨j, hj, rfl, rfl, rfl, hb⟩ := hrel
  by_cases hlt : j < q
  · have hj4 : j = 0 ∨ j = 1 ∨ j = 2 := by omega
    rcases hj4 with rfl | rfl | rfl
    · simp only [sq, cq]
      go_wp2
      go_roundw
      case rel => exact ⟨1, by omega, rfl, rfl, by simp, hb⟩
      case measure => simp [intOf]; omega
    · simp only [sq, cq]
      go_wp2
      go_roundw
      case rel => exact ⟨2, by omega, rfl, rfl, by simp, hb⟩
      case measure => simp [intOf]; omega
    · simp only [sq, cq]
      go_wp2
      go_roundw
      case rel => exact ⟨3, by omega, rfl, rfl, by simp, hb⟩
      case measure => simp [intOf]; omega
  · obtain rfl : j = q := by omega
    go_wp2
    go_ret2
    refine ⟨?_, hb⟩
    rw [HC.out, HS.out]
    rfl
end Go.Proofs.YtpfkiohknpeifaaGreat

namespace Go.Proofs.YtpfkiohknpeifaaGreat
open Go.RowKit

set_option maxRecDepth 100000 in
theorem turnM (x y n : Int) (hx : -1099511627776 ≤ x ∧ x ≤ 1099511627776) (hy : -1099511627776 ≤ y ∧ y ≤ 1099511627776) (w : World) :
    Calls Tryz.prog 126 #[.int .i64 x, .int .i64 y, .int .i64 n] w fun e w' => e = .returned (.tuple #[.int .i64 (turnU x y n), .int .i64 (turnV x y n), .nilIface]) ∧ Below w.heap.size w w' := by
  obtain ⟨hx1, hx2⟩ := hx
  obtain ⟨hy1, hy2⟩ := hy
  have bc := cosA_bd n
  have bs := sinA_bd n
  have hbo := fun W => bothM n W
  have hu : turnU x y n = (cosA n * x - sinA n * y).tdiv 32768 := rfl
  have hv : turnV x y n = (sinA n * x + cosA n * y).tdiv 32768 := rfl
  obtain ⟨C, hC⟩ : ∃ c, cosA n = c := ⟨_, rfl⟩
  obtain ⟨S, hS⟩ : ∃ c, sinA n = c := ⟨_, rfl⟩
  simp only [hC, hS] at hbo hu hv bc bs
  have m1 := mul_bd (a := C) (b := x) (A := 65536) (B := 1099511627776) (by omega) (by omega)
  have m2 := mul_bd (a := S) (b := y) (A := 65536) (B := 1099511627776) (by omega) (by omega)
  have m3 := mul_bd (a := S) (b := x) (A := 65536) (B := 1099511627776) (by omega) (by omega)
  have m4 := mul_bd (a := C) (b := y) (A := 65536) (B := 1099511627776) (by omega) (by omega)
  have e1 : IntKind.i64.wrap (C * x) = C * x := IntWalk.i64_in _ (by omega)
  have e2 : IntKind.i64.wrap (S * y) = S * y := IntWalk.i64_in _ (by omega)
  have e3 : IntKind.i64.wrap (S * x) = S * x := IntWalk.i64_in _ (by omega)
  have e4 : IntKind.i64.wrap (C * y) = C * y := IntWalk.i64_in _ (by omega)
  have e5 : IntKind.i64.wrap (C * x - S * y) = C * x - S * y := IntWalk.i64_in _ (by omega)
  have e6 : IntKind.i64.wrap (S * x + C * y) = S * x + C * y := IntWalk.i64_in _ (by omega)
  have d1 := tdiv_in (a := C * x - S * y) (b := 32768) (A := -17592186044416) (B := 17592186044416) (by omega) (by omega) (by omega)
  have d2 := tdiv_in (a := S * x + C * y) (b := 32768) (A := -17592186044416) (B := 17592186044416) (by omega) (by omega) (by omega)
  obtain ⟨U, hU⟩ : ∃ c, (C * x - S * y).tdiv 32768 = c := ⟨_, rfl⟩
  obtain ⟨V, hV⟩ : ∃ c, (S * x + C * y).tdiv 32768 = c := ⟨_, rfl⟩
  rw [hU] at d1 hu
  rw [hV] at d2 hv
  obtain ⟨d1a, d1b⟩ := d1
  obtain ⟨d2a, d2b⟩ := d2
  have HBO := hide hbo
  have HU := Lib.hid hu
  have HV := Lib.hid hv
  clear hbo hu hv hC hS bc bs m1 m2 m3 m4
  go_enter Tryz.func126, Tryz.ntmps126
  go_wp2_with fail
  refine ((unhide HBO) _).mono ?_
  rintro e w1 ⟨rfl, hb⟩
  go_wp2
  refine bodyPost_ret (results_tmp3 rfl _ _ _) rfl ⟨?_, hb⟩
  rw [HU.out, HV.out]
  rfl
set_option maxRecDepth 100000 in
theorem turnR (x y n : Int) (hx : -1099511627776 ≤ x ∧ x ≤ 1099511627776) (hy : -1099511627776 ≤ y ∧ y ≤ 1099511627776) (w : World) :
    Calls Tryz.prog 112 #[.int .i64 x, .int .i64 y, .int .i64 n] w fun e w' => e = .returned (.tuple #[.int .i64 (turnU x y n), .int .i64 (turnV x y n), .int .i64 0]) ∧ Below w.heap.size w w' := by
  obtain ⟨hx1, hx2⟩ := hx
  obtain ⟨hy1, hy2⟩ := hy
  have bc := cosA_bd n
  have bs := sinA_bd n
  have hbo := fun W => bothR n W
  have hu : turnU x y n = (cosA n * x - sinA n * y).tdiv 32768 := rfl
  have hv : turnV x y n = (sinA n * x + cosA n * y).tdiv 32768 := rfl
  obtain ⟨C, hC⟩ : ∃ c, cosA n = c := ⟨_, rfl⟩
  obtain ⟨S, hS⟩ : ∃ c, sinA n = c := ⟨_, rfl⟩
  simp only [hC, hS] at hbo hu hv bc bs
  have m1 := mul_bd (a := C) (b := x) (A := 65536) (B := 1099511627776) (by omega) (by omega)
  have m2 := mul_bd (a := S) (b := y) (A := 65536) (B := 1099511627776) (by omega) (by omega)
  have m3 := mul_bd (a := S) (b := x) (A := 65536) (B := 1099511627776) (by omega) (by omega)
  have m4 := mul_bd (a := C) (b := y) (A := 65536) (B := 1099511627776) (by omega) (by omega)
  have e1 : IntKind.i64.wrap (C * x) = C * x := IntWalk.i64_in _ (by omega)
  have e2 : IntKind.i64.wrap (S * y) = S * y := IntWalk.i64_in _ (by omega)
  have e3 : IntKind.i64.wrap (S * x) = S * x := IntWalk.i64_in _ (by omega)
  have e4 : IntKind.i64.wrap (C * y) = C * y := IntWalk.i64_in _ (by omega)
  have e5 : IntKind.i64.wrap (C * x - S * y) = C * x - S * y := IntWalk.i64_in _ (by omega)
  have e6 : IntKind.i64.wrap (S * x + C * y) = S * x + C * y := IntWalk.i64_in _ (by omega)
  have d1 := tdiv_in (a := C * x - S * y) (b := 32768) (A := -17592186044416) (B := 17592186044416) (by omega) (by omega) (by omega)
  have d2 := tdiv_in (a := S * x + C * y) (b := 32768) (A := -17592186044416) (B := 17592186044416) (by omega) (by omega) (by omega)
  obtain ⟨U, hU⟩ : ∃ c, (C * x - S * y).tdiv 32768 = c := ⟨_, rfl⟩
  obtain ⟨V, hV⟩ : ∃ c, (S * x + C * y).tdiv 32768 = c := ⟨_, rfl⟩
  rw [hU] at d1 hu
  rw [hV] at d2 hv
  obtain ⟨d1a, d1b⟩ := d1
  obtain ⟨d2a, d2b⟩ := d2
  have HBO := hide hbo
  have HU := Lib.hid hu
  have HV := Lib.hid hv
  clear hbo hu hv hC hS bc bs m1 m2 m3 m4
  go_enter Tryz.func112, Tryz.ntmps112
  go_wp2_with fail
  refine ((unhide HBO) _).mono ?_
  rintro e w1 ⟨rfl, hb⟩
  go_wp2
  refine bodyPost_ret (results_tmp3 rfl _ _ _) rfl ⟨?_, hb⟩
  rw [HU.out, HV.out]
  rfl
end Go.Proofs.YtpfkiohknpeifaaGreat
