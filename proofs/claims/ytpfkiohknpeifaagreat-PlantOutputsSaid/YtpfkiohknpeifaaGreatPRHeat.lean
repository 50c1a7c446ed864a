/- The walks of the reference's Celsius and Step of a heat network at three nodes, and of its loss. -/
import Derived.Test.YtpfkiohknpeifaaGreatPHeatM
import Derived.Test.YtpfkiohknpeifaaGreatPElec
import Derived.Test.YtpfkiohknpeifaaGreatBox
namespace Go.Proofs.YtpfkiohknpeifaaGreat
open Go.RowKit
theorem clipHeRQ (n lo hi : Int) (h : lo ≤ hi) (w : World) : Calls Tryz.prog 82 #[.int .i64 n, .int .i64 lo, .int .i64 hi] w fun e w' => e = .returned (.int .i64 (clipI n lo hi)) ∧ w' = w :=
  (clipHeR n lo hi h w).mono fun _ _ ⟨he, hw⟩ => ⟨he, hw.symm⟩
theorem warmRQ (t : Int) (w : World) : Calls Tryz.prog 34 #[.int .i64 t] w fun e w' => e = .returned (.int .i64 (warmV t)) ∧ w' = w :=
  (warmR t w).mono fun _ _ ⟨he, hw⟩ => ⟨he, hw.symm⟩
theorem lossRQ (c n : Int) (w : World) : Calls Tryz.prog 119 #[.int .i64 c, .int .i64 n] w fun e w' => e = .returned (.int .i64 (lossV c n)) ∧ w' = w :=
  (lossR c n w).mono fun _ _ ⟨he, hw⟩ => ⟨he, hw.symm⟩
theorem floorR64 (P : Int) (w : World) (hP : -9223372036854775808 ≤ P ∧ P ≤ 9223372036854775807) : Calls Tryz.prog 118 #[.int .i64 P, .int .i64 65536] w fun e w' => e = .returned (.int .i64 (P / 65536)) ∧ w = w' := by
  have hf := floor_eq2 P
  have q := tdiv_in (a := P) (b := 65536) (A := -140737488355328) (B := 140737488355328) (by omega) (by omega) (by omega)
  obtain ⟨D, hD⟩ : ∃ x, P.tdiv 65536 = x := ⟨_, rfl⟩
  obtain ⟨M, hM⟩ : ∃ x, P.tmod 65536 = x := ⟨_, rfl⟩
  obtain ⟨F, hF⟩ : ∃ x, P / 65536 = x := ⟨_, rfl⟩
  rw [hD] at hf q
  rw [hM, hF] at hf
  rw [hF]
  have e1 : wrap64 D = D := by unfold wrap64; omega
  have e2 : wrap64 (D - 1) = D - 1 := by unfold wrap64; omega
  have HF := Lib.hid hf
  clear hf hF
  go_enter Tryz.func118, Tryz.ntmps118
  by_cases h : M < 0
  · go_wp2
    go_ret
    exact ⟨by rw [← HF.out, if_pos h]; rfl, rfl⟩
  · go_wp2
    go_ret
    exact ⟨by rw [← HF.out, if_neg (by omega)]; rfl, rfl⟩
theorem floorRQ (P : Int) (w : World) (hP : -9223372036854775808 ≤ P ∧ P ≤ 9223372036854775807) : Calls Tryz.prog 118 #[.int .i64 P, .int .i64 65536] w fun e w' => e = .returned (.int .i64 (P / 65536)) ∧ w' = w :=
  (floorR64 P w hP).mono fun _ _ ⟨he, hw⟩ => ⟨he, hw.symm⟩
theorem owns_empty (w : World) (base : Nat) (e : TypeId) (size : Nat) (hb : base ≤ w.heap.size) : (w.alloc (.cells #[] e)).ownsRow base e size (.slice (some ⟨w.heap.size, 0, none⟩) 0 0) 0 [] :=
  ⟨by simp, .inr ⟨w.heap.size, 0, #[], rfl, hb, Blk.new w e #[], Nat.le_refl _, by decide, by simp, by simp⟩⟩
set_option maxRecDepth 100000 in
set_option maxHeartbeats 3200000 in
theorem celR (X : List Int) (A0 : Option Addr) (n c0 : Nat) (w : World) (SX : Sl w w.heap.size 1 A0 (rows X)) (eX : n = X.length) (hn : n ≤ 1000) (hX : ∀ k, k < n → -9223372036854775808 ≤ g X k ∧ g X k ≤ 9223372036854775807) :
    Calls Tryz.prog 69 #[.slice A0 n c0] w fun e w' => (∃ A c, e = .returned (.slice A n c) ∧ Sl w' w'.heap.size 1 A (rows (cels X n)) ∧ (∀ ad, A = some ad → w.heap.size ≤ ad.block)) ∧ Below w.heap.size w w' := by
  have EX := Lib.hid eX
  obtain ⟨i0, hi, hz0, hz1, hz2⟩ := info_of intInfo
  have hb0 := (Below.refl w.heap.size w).alloc (Nat.le_refl _) (.cells #[] 3)
  have HX := Lib.hid hX
  clear eX hX
  go_enter Tryz.func69, Tryz.ntmps69
  go_wp2
  go_loopw [3, 4] (fun v i wr => ∃ (k : Nat) (A : Option Addr) (c : Nat), k ≤ n ∧ i = .int .i64 k ∧ v = .slice A k c ∧ wr.ownsRow w.heap.size 3 1 (.slice A k c) k (rows (cels X k)).flatten ∧ Below w.heap.size w wr) (fun _ i _ => n - (intOf i).toNat)
  case atStart => exact ⟨0, some ⟨w.heap.size, 0, none⟩, 0, Nat.zero_le _, rfl, rfl, owns_empty w _ _ _ (Nat.le_refl _), hb0⟩
  case round =>
    clear hb0
    obtain ⟨k, A, c, hk, rfl, rfl, hown, hb⟩ := hrel
    by_cases hlt : k < n
    · obtain ⟨ad, p, rfl, hpa, hpb, p0⟩ := (SX.below hb).at1 (k := k) (by have := EX.out; omega)
      have hpb1 : p.block < wr.heap.size := by have := hb.size; omega
      have bx := HX.out k hlt
      obtain ⟨x, hx⟩ : ∃ x, g X k = x := ⟨_, rfl⟩
      have hs : cels X (k + 1) = cels X k ++ [x / 65536] := by rw [← hx]; rfl
      rw [hx] at bx
      replace p0 : wr.cell? p = some (.int .i64 x) := by rw [← hx]; exact p0
      have hf := fun W => floorR64 x W bx
      obtain ⟨Z, hZ⟩ : ∃ z, x / 65536 = z := ⟨_, rfl⟩
      rw [hZ] at hs
      simp only [hZ] at hf
      have HF := hide hf
      have HS := Lib.hid hs
      clear hs hx hf bx hZ
      have hones : ∀ u ∈ [Value.int .i64 Z], u.oneCell' = true := by
        intro u hu; simp at hu; subst hu; rfl
      have h63 : k + 1 ≤ maxLen := by unfold maxLen; omega
      have hby : (k + 1) * 8 ≤ 140737488355328 := by omega
      have hsz := hb.size
      have hbase : w.heap.size ≤ (wr.alloc (.cells #[.int .i64 Z] 3)).heap.size := by simp; omega
      have hge := own_ge hown
      go_wp2_with (first | (go_at_call 118; (with_reducible refine ((unhide HF) _).mono ?_); rintro e w' ⟨rfl, rfl⟩) | (at_builtin; refine wpList_append_lies _ (by rfl) _ _ _ (by rfl) w.heap.size 3 i0 _ 1 8 Tryz.underlying22 hi hz0 hz1 hz2 (by rfl) (by decide) _ _ _ (by rfl) (hown.alloc _) ⟨wr.heap.size, 0, none⟩ 1 1 [.int .i64 Z] (by rfl) (by rfl) (news_alloc _ [_] _ _ (by simp)) hones (by decide) h63 hby hbase (wr.heap.size + 1) (by simp) ?_; intro g cap wx hown' hgrow hat hlt1))
      go_roundw
      case rel =>
        have hN := hb.alloc hb.size (.cells #[.int .i64 Z] 3) |>.grown hgrow (by simp; omega) (fun g hg => by have := hge g hg; omega)
        rw [← rows_app, ← HS.out] at hown'
        exact ⟨k + 1, some ⟨g, 0, none⟩, cap, by omega, by go_num, rfl, hown', hN⟩
      case measure => simp [intOf]; omega
    · obtain rfl : k = n := by omega
      obtain ⟨A', c', hv, hS, hfr⟩ := Sl.of_own (rs := rows (cels X k)) hown (rows_len _) (by rw [rows_length, cels_len])
      injection hv with v1 v2 v3
      subst v1 v3
      go_wp2
      go_ret
      exact ⟨⟨A, ⟨c, rfl⟩, hS, hfr⟩, hb⟩
set_option maxRecDepth 100000 in
set_option maxHeartbeats 6400000 in
theorem hstepR (H : Hc) (A1 A2 A3 : Option Addr) (n1 n2 n3 c1 c2 c3 : Nat) (PA : Nat → Option Addr) (PC : Nat → Nat) (X Pw : List Int) (AX AP : Option Addr) (nX nP cX cP : Nat) (amb : Int) (w : World) (L : Hy w w.heap.size H A1 A2 A3 n1 n2 n3 PA PC) (hc : htCode H = 0) (h3 : n1 = 3) (SX : Sl w w.heap.size 1 AX (rows X)) (SP : Sl w w.heap.size 1 AP (rows Pw)) (eX : nX = X.length) (eP : nP = Pw.length) (x3 : nX = 3) (p3 : nP = 3) :
    Calls Tryz.prog 63 #[.agg #[.slice A1 n1 c1, .slice A2 n2 c2, .slice A3 n3 c3], .slice AX nX cX, .slice AP nP cP, .int .i64 amb] w fun e w' => (∃ A c, e = .returned (.slice A 3 c) ∧ Sl w' w'.heap.size 1 A (rows (stps H X Pw amb 3)) ∧ (∀ ad, A = some ad → w.heap.size ≤ ad.block)) ∧ Below w.heap.size w w' := by
  have ok := ht_ok hc
  subst h3
  have hn := L.e1
  rw [← hn] at ok
  obtain rfl : n2 = 3 := by rw [L.e2]; exact ok.la
  obtain rfl : n3 = 3 := by rw [L.e3]; exact ok.ll
  obtain ⟨ad3, _, rfl, _⟩ := L.row (i := 0) (by rw [ok.ll]; omega)
  obtain ⟨ad1, rfl⟩ := L.s1.ptr (by rw [ok.lg]; omega)
  obtain ⟨ad2, rfl⟩ := L.s2.ptr (by rw [ok.la]; omega)
  clear hn
  subst x3 p3
  obtain ⟨ax, rfl⟩ := SX.ptr (by omega)
  obtain ⟨ap, rfl⟩ := SP.ptr (by omega)
  have hb0 := ((Below.refl w.heap.size w).alloc (Nat.le_refl _) (.cells #[.slice (some ad1) 3 c1, .slice (some ad2) 3 c2, .slice (some ad3) 3 c3] 33)).alloc (by simp) (.cells #[] 3)
  have g0 := (Blk.new w 33 #[.slice (some ad1) 3 c1, .slice (some ad2) 3 c2, .slice (some ad3) 3 c3]).alloc (.cells #[] 3)
  have hown0 := owns_empty (w.alloc (.cells #[.slice (some ad1) 3 c1, .slice (some ad2) 3 c2, .slice (some ad3) 3 c3] 33)) (w.heap.size + 1) 3 1 (by simp)
  rw [show (w.alloc (.cells #[.slice (some ad1) 3 c1, .slice (some ad2) 3 c2, .slice (some ad3) 3 c3] 33)).heap.size = w.heap.size + 1 by simp] at hown0
  have hwm := fun W => warmRQ amb W
  have bw := warmV_bd amb
  have hfz := hfl_zero H X amb
  have hfb := fun i m hi hm => hfl_bd (i := i) (m := m) ok X amb hi hm hm
  obtain ⟨WA, hWA⟩ : ∃ x, warmV amb = x := ⟨_, rfl⟩
  simp only [hWA] at hwm bw hfz
  have HWM := hide hwm
  have HFZ := hide hfz
  have HFB := hide hfb
  have OK := Lib.hid ok
  have EX := Lib.hid eX
  have EP := Lib.hid eP
  obtain ⟨i0, hi, hz0, hz1, hz2⟩ := info_of intInfo
  clear hwm hc ok hWA hfz hfb eX eP
  go_enter Tryz.func63, Tryz.ntmps63
  go_wp2
  go_loopw [9, 10] (fun v i wr => ∃ (k : Nat) (A : Option Addr) (c : Nat), k ≤ 3 ∧ i = .int .i64 k ∧ v = .slice A k c ∧ wr.ownsRow (w.heap.size + 1) 3 1 (.slice A k c) k (rows (stps H X Pw amb k)).flatten ∧ Blk wr w.heap.size 33 #[.slice (some ad1) 3 c1, .slice (some ad2) 3 c2, .slice (some ad3) 3 c3] ∧ Below w.heap.size w wr) (fun _ i _ => 3 - (intOf i).toNat)
  case atStart => exact ⟨0, _, 0, Nat.zero_le _, rfl, rfl, hown0, g0, hb0⟩
  case round =>
    clear hown0 g0 hb0
    obtain ⟨k, A, c, hk, rfl, rfl, hown, g2, hb⟩ := hrel
    have lg := g2.lt
    by_cases hlt : k < 3
    · obtain ⟨y0, y1, y2⟩ := g2.c3
      have hkl : k < H.Lk.length := by rw [OK.out.ll]; exact hlt
      obtain ⟨px, hxa, hxb, x0⟩ := (SX.below hb).at1' (k := k) (by have := EX.out; omega)
      obtain ⟨q, hqa, hqb, q0⟩ := (L.s2.below hb).at1' (k := k) (by rw [OK.out.la]; exact hlt)
      have hsz := hb.size
      have hqb1 : q.block < wr.heap.size := by omega
      have hxb1 : px.block < wr.heap.size := by omega
      have bA := OK.out.a k hlt
      have bG := OK.out.g k hlt
      have bh := hcl_bd X k
      have bx := (unhide HFB) k 3 hlt (Nat.le_refl _)
      have hz := (unhide HFZ) k
      have bz := (unhide HFB) k 0 hlt (by omega)
      have hv : stpV H X Pw amb k = clipI (hcl X k + hfl H X amb k 3 / 65536 + g H.G k * clipI (g Pw k) 0 1073741824) (-1099511627776) 1099511627776 := rfl
      have hc0 := fun W => clipHeR (g X k) (-1099511627776) 1099511627776 (by omega) W
      have hcd : clipI (g X k) (-1099511627776) 1099511627776 = hcl X k := rfl
      have hc1 := fun W => clipHeRQ (g Pw k) 0 1073741824 (by omega) W
      have b1 := clip_bd (g Pw k) 0 1073741824 (by omega)
      simp only [hcd] at hc0
      obtain ⟨h, hh⟩ : ∃ x, hcl X k = x := ⟨_, rfl⟩
      rw [hh] at bh hz hv
      simp only [hh] at hc0
      obtain ⟨XX, hXX⟩ : ∃ x, g X k = x := ⟨_, rfl⟩
      rw [hXX] at x0
      simp only [hXX] at hc0
      obtain ⟨AA, hA⟩ : ∃ x, g H.Am k = x := ⟨_, rfl⟩
      rw [hA] at bA hz q0
      obtain ⟨GG, hG⟩ : ∃ x, g H.G k = x := ⟨_, rfl⟩
      rw [hG] at bG hv
      obtain ⟨PP, hP⟩ : ∃ x, g Pw k = x := ⟨_, rfl⟩
      rw [hP] at hv b1
      simp only [hP] at hc1
      obtain ⟨Q, hQ⟩ : ∃ x, clipI PP 0 1073741824 = x := ⟨_, rfl⟩
      rw [hQ] at hv b1
      simp only [hQ] at hc1
      rw [hz] at bz
      have e1 : wrap64 (WA - h) = WA - h := by unfold wrap64; omega
      have e1b : IntKind.i64.wrap (WA - h) = WA - h := IntWalk.i64_in _ (by omega)
      have e2 : IntKind.i64.wrap (AA * (WA - h)) = AA * (WA - h) := IntWalk.i64_in _ (by omega)
      have e2b : wrap64 (AA * (WA - h)) = AA * (WA - h) := by unfold wrap64; omega
      have mg := share_mul (b := Q) (A := 1073741824) bG.1 bG.2 (by omega)
      obtain ⟨GQ, hGQ⟩ : ∃ x, GG * Q = x := ⟨_, rfl⟩
      rw [hGQ] at hv mg
      have e3 : IntKind.i64.wrap (GG * Q) = GQ := by rw [hGQ]; exact IntWalk.i64_in _ (by omega)
      have e3b : wrap64 (GG * Q) = GQ := by rw [hGQ]; unfold wrap64; omega
      obtain ⟨F, hF⟩ : ∃ x, hfl H X amb k 3 / 65536 = x := ⟨_, rfl⟩
      have bF : -8796093022208 ≤ F ∧ F ≤ 8796093022208 := by omega
      have hfl' := fun W => floorRQ (hfl H X amb k 3) W (by omega)
      rw [hF] at hv
      simp only [hF] at hfl'
      have e4 : wrap64 (F + GQ) = F + GQ := by unfold wrap64; omega
      have e4b : IntKind.i64.wrap (F + GQ) = F + GQ := IntWalk.i64_in _ (by omega)
      have e5 : wrap64 (h + (F + GQ)) = h + F + GQ := by unfold wrap64; omega
      have e5b : IntKind.i64.wrap (h + (F + GQ)) = h + F + GQ := by rw [show h + (F + GQ) = h + F + GQ by omega]; exact IntWalk.i64_in _ (by omega)
      have hc2 := fun W => clipHeR (h + F + GQ) (-1099511627776) 1099511627776 (by omega) W
      obtain ⟨Z, hZ⟩ : ∃ x, clipI (h + F + GQ) (-1099511627776) 1099511627776 = x := ⟨_, rfl⟩
      rw [hZ] at hv
      simp only [hZ] at hc2
      have HC0 := hide hc0
      have HC1 := hide hc1
      have HC2 := hide hc2
      have HFL := hide hfl'
      have HVV := Lib.hid hv
      have HZ0 := Lib.hid hz
      have HHH := Lib.hid hh
      have HGG := Lib.hid hG
      have HPP := Lib.hid hP
      have BX := Lib.hid bx
      clear hc0 hc1 hc2 hfl' hv hz hF hh hA hG hP hQ hZ hGQ hXX hcd bx bG b1 mg bF
      go_wp2_with (first | (go_at_call 82; (with_reducible refine ((unhide HC0) _).mono ?_); rintro e w' ⟨rfl, rfl⟩))
      refine wp_region_mix 10 (by kernel_rfl) (by kernel_rfl) (fun _ _ _ _ _ h => h) ?_
      simp only [List.take_succ_cons, List.take_zero, List.drop_succ_cons, List.drop_zero]
      repeat still_step
      still_call ((unhide HWM) _)
      repeat still_step
      refine wpStill_nil ?_
      change wpList _ _ _ _ _ wr.drew
      obtain ⟨W, hw, sw⟩ := drewX wr
      replace hown : W.ownsRow (w.heap.size + 1) 3 1 (.slice A k c) k (rows (stps H X Pw amb k)).flatten := by rw [← hw]; exact hown
      replace g2 : Blk W w.heap.size 33 #[.slice (some ad1) 3 c1, .slice (some ad2) 3 c2, .slice (some ad3) 3 c3] := by rw [← hw]; exact g2.drew
      replace hb : Below w.heap.size w W := by rw [← hw]; exact hb.drew
      clear y0 y1 y2 q0 x0
      rw [← sw] at lg hsz hqb1 hxb1
      clear sw
      simp only [hw]
      clear hw
      go_wp2
      go_loopw [12, 13] (fun x j wr => ∃ m : Nat, m ≤ 3 ∧ j = .int .i64 m ∧ x = .int .i64 (hfl H X amb k m) ∧ wr.ownsRow (w.heap.size + 1) 3 1 (.slice A k c) k (rows (stps H X Pw amb k)).flatten ∧ Blk wr w.heap.size 33 #[.slice (some ad1) 3 c1, .slice (some ad2) 3 c2, .slice (some ad3) 3 c3] ∧ Below w.heap.size w wr) (fun _ j _ => 3 - (intOf j).toNat)
      case atStart => exact ⟨0, by omega, rfl, by rw [HZ0.out], hown, g2, hb⟩
      case round =>
        clear hown g2 hb lg hsz hqb1 hxb1 hqb hxb
        obtain ⟨m, hm, rfl, rfl, hown, g2, hb⟩ := hrel
        have lg := g2.lt
        have hsz := hb.size
        obtain ⟨y0, y1, y2⟩ := g2.c3
        by_cases hmt : m < 3
        · obtain ⟨p, hpa, hpb, p0⟩ := (L.below hb).row' hkl
          rw [OK.out.lr k hlt] at p0
          have S3 := L.s3 k hkl
          obtain ⟨ak, hak⟩ := S3.ptr (by rw [OK.out.lr k hlt]; omega)
          rw [hak] at p0 S3
          obtain ⟨t, hta, htb, t0⟩ := (S3.below hb).at1' (k := m) (by rw [OK.out.lr k hlt]; exact hmt)
          obtain ⟨r, hra, hrb, r0⟩ := (SX.below hb).at1' (k := m) (by have := EX.out; omega)
          replace t0 : wr.cell? t = some (.int .i64 (lk H k m)) := t0
          have htb1 : t.block < wr.heap.size := by omega
          have hpb1 : p.block < wr.heap.size := by omega
          have hrb1 : r.block < wr.heap.size := by omega
          have hs := hfl_succ H X amb k m
          have b2 := (unhide HFB) k m hlt (by omega)
          have b3 := (unhide HFB) k (m + 1) hlt (by omega)
          have b4 := OK.out.l k hlt m hmt
          have b5 := hcl_bd X m
          have hc3 := fun W => clipHeRQ (g X m) (-1099511627776) 1099511627776 (by omega) W
          have hcd : clipI (g X m) (-1099511627776) 1099511627776 = hcl X m := rfl
          simp only [hcd] at hc3
          rw [hs] at b3
          rw [HHH.out] at hs b3
          obtain ⟨Y, hY⟩ : ∃ x, hfl H X amb k m = x := ⟨_, rfl⟩
          obtain ⟨K, hK⟩ : ∃ x, lk H k m = x := ⟨_, rfl⟩
          obtain ⟨N, hN⟩ : ∃ x, hcl X m = x := ⟨_, rfl⟩
          obtain ⟨R, hR⟩ : ∃ x, g X m = x := ⟨_, rfl⟩
          rw [hK] at t0 b4
          rw [hN] at b5
          rw [hR] at r0
          simp only [hN, hR] at hc3
          rw [hY] at b2
          rw [hY, hK, hN] at b3 hs
          simp only [hY]
          have f1 : wrap64 (N - h) = N - h := by unfold wrap64; omega
          have f1b : IntKind.i64.wrap (N - h) = N - h := IntWalk.i64_in _ (by omega)
          have mk := share_mul (b := N - h) (A := 2199023255552) b4.1 b4.2 (by omega)
          have f2 : IntKind.i64.wrap (K * (N - h)) = K * (N - h) := IntWalk.i64_in _ (by omega)
          have f2b : wrap64 (K * (N - h)) = K * (N - h) := by unfold wrap64; omega
          have f3 : wrap64 (Y + K * (N - h)) = Y + K * (N - h) := by unfold wrap64; omega
          have f3b : IntKind.i64.wrap (Y + K * (N - h)) = Y + K * (N - h) := IntWalk.i64_in _ (by omega)
          have HS := Lib.hid hs
          have HC3 := hide hc3
          clear hY hK hN hs hR hc3 hcd
          go_wp2_with fail
          refine wp_region_mix 18 (by kernel_rfl) (by kernel_rfl) (fun _ _ _ _ _ h => h) ?_
          simp only [List.take_succ_cons, List.take_zero, List.drop_succ_cons, List.drop_zero]
          repeat still_step
          still_call ((unhide HC3) _)
          repeat still_step
          refine wpStill_nil ?_
          change wpList _ _ _ _ _ wr.drew
          obtain ⟨W2, hw, sw⟩ := drewX wr
          replace hown : W2.ownsRow (w.heap.size + 1) 3 1 (.slice A k c) k (rows (stps H X Pw amb k)).flatten := by rw [← hw]; exact hown
          replace g2 : Blk W2 w.heap.size 33 #[.slice (some ad1) 3 c1, .slice (some ad2) 3 c2, .slice (some ad3) 3 c3] := by rw [← hw]; exact g2.drew
          replace hb : Below w.heap.size w W2 := by rw [← hw]; exact hb.drew
          clear y0 y1 y2 p0 t0 r0 sw
          simp only [hw]
          clear hw
          go_wp2
          go_roundw
          case rel => exact ⟨m + 1, by omega, by go_num, by rw [HS.out], hown, g2, hb⟩
          case measure => simp [intOf]; omega
        · obtain rfl : m = 3 := by omega
          clear hmt hm
          have bG := OK.out.g k hlt
          obtain ⟨r, hra, hrb, r0⟩ := (L.s1.below hb).at1' (k := k) (by rw [OK.out.lg]; exact hlt)
          obtain ⟨s, hsa, hsb, s0⟩ := (SP.below hb).at1' (k := k) (by have := EP.out; omega)
          rw [HGG.out] at r0
          rw [HPP.out] at s0
          have hrb1 : r.block < wr.heap.size := by omega
          have hsb1 : s.block < wr.heap.size := by omega
          obtain ⟨Y, hY⟩ : ∃ x, hfl H X amb k 3 = x := ⟨_, rfl⟩
          have hfl' := fun W => (unhide HFL) W
          simp only [hY] at hfl' ⊢
          have HF2 := hide hfl'
          clear hY hfl' bG
          go_wp2_with fail
          refine wp_region_mix 16 (by kernel_rfl) (by kernel_rfl) (fun _ _ _ _ _ h => h) ?_
          simp only [List.take_succ_cons, List.take_zero, List.drop_succ_cons, List.drop_zero]
          repeat still_step
          still_call ((unhide HF2) _)
          repeat still_step
          still_call ((unhide HC1) _)
          repeat still_step
          refine wpStill_nil ?_
          change wpList _ _ _ _ _ wr.drew
          obtain ⟨W2, hw, sw⟩ := drewX wr
          replace hown : W2.ownsRow (w.heap.size + 1) 3 1 (.slice A k c) k (rows (stps H X Pw amb k)).flatten := by rw [← hw]; exact hown
          replace g2 : Blk W2 w.heap.size 33 #[.slice (some ad1) 3 c1, .slice (some ad2) 3 c2, .slice (some ad3) 3 c3] := by rw [← hw]; exact g2.drew
          replace hb : Below w.heap.size w W2 := by rw [← hw]; exact hb.drew
          clear y0 y1 y2 r0 s0
          rw [← sw] at hsz
          clear sw lg hrb1 hsb1 hrb hsb
          simp only [hw]
          clear hw
          have hones : ∀ u ∈ [Value.int .i64 Z], u.oneCell' = true := by
            intro u hu; simp at hu; subst hu; rfl
          have h63 : k + 1 ≤ maxLen := by unfold maxLen; omega
          have hby : (k + 1) * 8 ≤ 140737488355328 := by omega
          have hbase : w.heap.size + 1 ≤ (W2.alloc (.cells #[.int .i64 Z] 3)).heap.size := by simp; omega
          have hge := own_ge hown
          have lg := g2.lt
          go_wp2_with (first | (go_at_call 82; (with_reducible refine ((unhide HC2) _).mono ?_); rintro e w' ⟨rfl, rfl⟩) | (at_builtin; refine wpList_append_lies _ (by rfl) _ _ _ (by rfl) (w.heap.size + 1) 3 i0 _ 1 8 Tryz.underlying22 hi hz0 hz1 hz2 (by rfl) (by decide) _ _ _ (by rfl) (hown.alloc _) ⟨W2.heap.size, 0, none⟩ 1 1 [.int .i64 Z] (by rfl) (by rfl) (news_alloc _ [_] _ _ (by simp)) hones (by decide) h63 hby hbase (W2.heap.size + 1) (by simp) ?_; intro g cap wx hown' hgrow hat hlt1))
          go_roundw
          case rel =>
            have hN := hb.alloc hb.size (.cells #[.int .i64 Z] 3) |>.grown hgrow (by simp; omega) (fun g hg => by have := hge g hg; omega)
            have hne : some w.heap.size ≠ (Value.slice A k c).ownBlock := own_ne hown (Or.inl (by omega))
            have hG1 := (g2.alloc (.cells #[.int .i64 Z] 3)).grown hgrow hne
            rw [← HVV.out, ← rows_app, ← stps_succ] at hown'
            exact ⟨k + 1, some ⟨g, 0, none⟩, cap, by omega, by go_num, rfl, hown', hG1, hN⟩
          case measure => simp [intOf]; omega
    · obtain rfl : k = 3 := by omega
      obtain ⟨A', c', hv, hS, hfr⟩ := Sl.of_own (rs := rows (stps H X Pw amb 3)) hown (rows_len _) (by rw [rows_length, stps_len])
      injection hv with v1 v2 v3
      subst v1 v3
      go_wp2
      go_ret
      exact ⟨⟨A, ⟨c, rfl⟩, hS, fun ad h => by have := hfr ad h; omega⟩, hb⟩
end Go.Proofs.YtpfkiohknpeifaaGreat
