/- The walks of heat.Start, heat.Step and heat.Celsius at three nodes. -/
import Derived.Test.YtpfkiohknpeifaaGreatPHeatB
import Derived.Deep.AppendLies
import Derived.Deep.RegionLaw
import Derived.Test.YtpfkiohknpeifaaGreatReg
namespace Go.Proofs.YtpfkiohknpeifaaGreat
open Go.RowKit
set_option maxRecDepth 100000 in
set_option maxHeartbeats 1600000 in
theorem hstartM (H : Hc) (A1 A2 A3 : Option Addr) (n1 n2 n3 c1 c2 c3 : Nat) (PA : Nat → Option Addr) (PC : Nat → Nat) (amb : Int) (w : World) (L : Hy w w.heap.size H A1 A2 A3 n1 n2 n3 PA PC) (hc : htCode H = 0) (h3 : n1 = 3) :
    Calls Tryz.prog 28 #[.agg #[.slice A1 n1 c1, .slice A2 n2 c2, .slice A3 n3 c3], .int .i64 amb] w fun e w' => ∃ A, e = .returned (.tuple #[.slice A 3 3, .nilIface]) ∧ Sl w' w'.heap.size 1 A (rows [warmV amb, warmV amb, warmV amb]) ∧ (∀ ad, A = some ad → w.heap.size ≤ ad.block) ∧ Below w.heap.size w w' := by
  have ok := ht_ok hc
  subst h3
  have hn := L.e1
  rw [← hn] at ok
  obtain rfl : n2 = 3 := by rw [L.e2]; exact ok.la
  obtain rfl : n3 = 3 := by rw [L.e3]; exact ok.ll
  obtain ⟨ad3, _, rfl, _⟩ := L.row (i := 0) (by rw [ok.ll]; omega)
  obtain ⟨ad1, rfl⟩ := L.s1.ptr (by rw [ok.lg]; omega)
  obtain ⟨ad2, rfl⟩ := L.s2.ptr (by rw [ok.la]; omega)
  clear hn
  have hb0 := (Below.refl w.heap.size w).alloc (Nat.le_refl _) (.cells #[.slice (some ad1) 3 c1, .slice (some ad2) 3 c2, .slice (some ad3) 3 c3] 33)
  have g0 := Blk.new w 33 #[.slice (some ad1) 3 c1, .slice (some ad2) 3 c2, .slice (some ad3) 3 c3]
  have L0 := L.new (.cells #[.slice (some ad1) 3 c1, .slice (some ad2) 3 c2, .slice (some ad3) 3 c3] 33)
  have hck := fun (W : World) (h : Hy W W.heap.size H (some ad1) (some ad2) (some ad3) 3 3 3 PA PC) => hckM H (some ad1) (some ad2) (some ad3) 3 3 3 c1 c2 c3 PA PC W h
  simp only [hc, errV_zero] at hck
  have hwm := fun W => warmM amb W
  obtain ⟨X, hX⟩ : ∃ x, warmV amb = x := ⟨_, rfl⟩
  simp only [hX] at hwm ⊢
  have HCK := hide hck
  have HWM := hide hwm
  have hmk := make3
  clear hck hwm hc ok hX
  go_enter Tryz.func28, Tryz.ntmps28
  go_wp2_with fail
  with_reducible refine ((unhide HCK) _ L0).mono ?_
  rintro e w1 ⟨rfl, hb1⟩
  have HB1 := hb0.trans (hb1.mono hb0.size)
  have g1 := g0.below hb1 g0.lt
  have l1 := g1.lt
  obtain ⟨y0, y1, y2⟩ := g1.c3
  have F0 := Fil.at0 w1 (fun _ => X)
  have HB2 := HB1.alloc HB1.size (.cells #[.int .i64 0, .int .i64 0, .int .i64 0] 3)
  go_wp2
  go_loopw [20] (fun i wr => ∃ k : Nat, k ≤ 3 ∧ i = .int .i64 k ∧ Fil wr w1.heap.size (fun _ => X) 3 k ∧ Below w.heap.size w wr) (fun i _ => 3 - (intOf i).toNat)
  case atStart => exact ⟨0, Nat.zero_le _, rfl, F0, HB2⟩
  case round =>
    clear F0 HB2 y0 y1 y2
    obtain ⟨k, hk, rfl, F0, hb⟩ := hrel
    have lf := F0.lt
    by_cases hlt : k < 3
    · obtain ⟨u, hu⟩ := F0.any hlt
      have fr := F0.frozen k
      go_wp2_with (first | (go_at_call 76; (with_reducible refine ((unhide HWM) _).mono ?_); rintro e w' ⟨rfl, rfl⟩))
      go_roundw
      case rel => exact ⟨k + 1, by omega, by go_num, F0.set hlt, hb.setCell (by simp; omega) _⟩
      case measure => simp [intOf]; omega
    · obtain rfl : k = 3 := by omega
      have S := F0.sl lf
      go_wp2
      go_ret2
      exact ⟨_, rfl, S, fun ad h => (by injection h with h; subst h; exact HB1.size), hb⟩
theorem clipHeQ (n lo hi : Int) (h : lo ≤ hi) (w : World) : Calls Tryz.prog 101 #[.int .i64 n, .int .i64 lo, .int .i64 hi] w fun e w' => e = .returned (.int .i64 (clipI n lo hi)) ∧ w' = w :=
  (clipHeM n lo hi h w).mono fun _ _ ⟨he, hw⟩ => ⟨he, hw.symm⟩
set_option maxRecDepth 100000 in
set_option maxHeartbeats 6400000 in
theorem hstepM (H : Hc) (A1 A2 A3 : Option Addr) (n1 n2 n3 c1 c2 c3 : Nat) (PA : Nat → Option Addr) (PC : Nat → Nat) (X Pw : List Int) (AX AP : Option Addr) (nX nP cX cP : Nat) (amb : Int) (w : World) (L : Hy w w.heap.size H A1 A2 A3 n1 n2 n3 PA PC) (hc : htCode H = 0) (h3 : n1 = 3) (SX : Sl w w.heap.size 1 AX (rows X)) (SP : Sl w w.heap.size 1 AP (rows Pw)) (eX : nX = X.length) (eP : nP = Pw.length) (x3 : nX = 3) (p3 : nP = 3) :
    Calls Tryz.prog 47 #[.agg #[.slice A1 n1 c1, .slice A2 n2 c2, .slice A3 n3 c3], .slice AX nX cX, .slice AP nP cP, .int .i64 amb] w fun e w' => ∃ A c, e = .returned (.tuple #[.slice A 3 c, .nilIface]) ∧ Sl w' w'.heap.size 1 A (rows (stps H X Pw amb 3)) ∧ (∀ ad, A = some ad → w.heap.size ≤ ad.block) ∧ Below w.heap.size w w' := by
  have ok := ht_ok hc
  subst h3
  have hn := L.e1
  rw [← hn] at ok
  obtain rfl : n2 = 3 := by rw [L.e2]; exact ok.la
  obtain rfl : n3 = 3 := by rw [L.e3]; exact ok.ll
  obtain ⟨ad3, _, rfl, _⟩ := L.row (i := 0) (by rw [ok.ll]; omega)
  obtain ⟨ad1, rfl⟩ := L.s1.ptr (by rw [ok.lg]; omega)
  obtain ⟨ad2, rfl⟩ := L.s2.ptr (by rw [ok.la]; omega)
  clear hn
  subst x3 p3
  obtain ⟨ax, rfl⟩ := SX.ptr (by omega)
  obtain ⟨ap, rfl⟩ := SP.ptr (by omega)
  have hb0 := (Below.refl w.heap.size w).alloc (Nat.le_refl _) (.cells #[.slice (some ad1) 3 c1, .slice (some ad2) 3 c2, .slice (some ad3) 3 c3] 33)
  have g0 := Blk.new w 33 #[.slice (some ad1) 3 c1, .slice (some ad2) 3 c2, .slice (some ad3) 3 c3]
  have L0 := L.new (.cells #[.slice (some ad1) 3 c1, .slice (some ad2) 3 c2, .slice (some ad3) 3 c3] 33)
  have hck := fun (W : World) (h : Hy W W.heap.size H (some ad1) (some ad2) (some ad3) 3 3 3 PA PC) => hckM H (some ad1) (some ad2) (some ad3) 3 3 3 c1 c2 c3 PA PC W h
  simp only [hc, errV_zero] at hck
  have hwm := fun W => warmM amb W
  have bw := warmV_bd amb
  have hfz := hfl_zero H X amb
  have hfb := fun i m hi hm => hfl_bd (i := i) (m := m) ok X amb hi hm hm
  obtain ⟨WA, hWA⟩ : ∃ x, warmV amb = x := ⟨_, rfl⟩
  simp only [hWA] at hwm bw hfz
  have HCK := hide hck
  have HWM := hide hwm
  have HFZ := hide hfz
  have HFB := hide hfb
  have OK := Lib.hid ok
  have EX := Lib.hid eX
  have EP := Lib.hid eP
  have hmk := make3
  obtain ⟨i0, hi, hz0, hz1, hz2⟩ := info_of intInfo
  clear hck hwm hc ok hWA hfz hfb eX eP
  go_enter Tryz.func47, Tryz.ntmps47
  go_wp2_with fail
  with_reducible refine ((unhide HCK) _ L0).mono ?_
  rintro e w1 ⟨rfl, hb1⟩
  have HB1 := hb0.trans (hb1.mono hb0.size)
  have g1 := g0.below hb1 g0.lt
  have l1 := g1.lt
  obtain ⟨y0, y1, y2⟩ := g1.c3
  have F0 := Fil.at0 w1 (hcl X)
  have HB2 := HB1.alloc HB1.size (.cells #[.int .i64 0, .int .i64 0, .int .i64 0] 3)
  have g2 := g1.alloc (.cells #[.int .i64 0, .int .i64 0, .int .i64 0] 3)
  go_wp2
  go_loopw [45] (fun i wr => ∃ k : Nat, k ≤ 3 ∧ i = .int .i64 k ∧ Fil wr w1.heap.size (hcl X) 3 k ∧ Blk wr w.heap.size 33 #[.slice (some ad1) 3 c1, .slice (some ad2) 3 c2, .slice (some ad3) 3 c3] ∧ Below w.heap.size w wr) (fun i _ => 3 - (intOf i).toNat)
  case atStart => exact ⟨0, Nat.zero_le _, rfl, F0, g2, HB2⟩
  case round =>
    clear F0 HB2 g2 y0 y1 y2
    obtain ⟨k, hk, rfl, F0, g2, hb⟩ := hrel
    have lf := F0.lt
    have lg := g2.lt
    by_cases hlt : k < 3
    · obtain ⟨u, hu⟩ := F0.any hlt
      have fr := F0.frozen k
      obtain ⟨p, hpa, hpb, p0⟩ := (SX.below hb).at1' (k := k) (by have := EX.out; omega)
      have hpb1 : p.block < wr.heap.size := by have := hb.size; omega
      have hcl0 := fun W => clipHeM (g X k) (-1099511627776) 1099511627776 (by omega) W
      have F1 := F0.set hlt
      have hcd : hcl X k = clipI (g X k) (-1099511627776) 1099511627776 := rfl
      rw [hcd] at F1
      obtain ⟨x, hx⟩ : ∃ x, g X k = x := ⟨_, rfl⟩
      simp only [hx] at hcl0 F1 p0
      obtain ⟨c, hcc⟩ : ∃ y, clipI x (-1099511627776) 1099511627776 = y := ⟨_, rfl⟩
      simp only [hcc] at hcl0 F1
      have HCL := hide hcl0
      clear hcl0 hx hcc hcd
      go_wp2_with (first | (go_at_call 101; (with_reducible refine ((unhide HCL) _).mono ?_); rintro e w' ⟨rfl, rfl⟩))
      go_roundw
      case rel => exact ⟨k + 1, by omega, by go_num, F1, g2.far (by simp; omega) _, hb.setCell (by simp; omega) _⟩
      case measure => simp [intOf]; omega
    · obtain rfl : k = 3 := by omega
      clear hlt hk
      go_wp2
      go_loopw [14, 58] (fun v i wr => ∃ (k : Nat) (A : Option Addr) (c : Nat), k ≤ 3 ∧ i = .int .i64 k ∧ v = .slice A k c ∧ wr.ownsRow (w1.heap.size + 1) 3 1 (.slice A k c) k (rows (stps H X Pw amb k)).flatten ∧ Fil wr w1.heap.size (hcl X) 3 3 ∧ Blk wr w.heap.size 33 #[.slice (some ad1) 3 c1, .slice (some ad2) 3 c2, .slice (some ad3) 3 c3] ∧ Below w.heap.size w wr) (fun _ i _ => 3 - (intOf i).toNat)
      case atStart => exact ⟨0, none, 0, Nat.zero_le _, rfl, rfl, World.ownsRow_nil _ _ _ _, F0, g2, hb⟩
      case round =>
        clear F0 g2 hb lf lg
        obtain ⟨k, A, c, hk, rfl, rfl, hown, F0, g2, hb⟩ := hrel
        have lf := F0.lt
        have lg := g2.lt
        by_cases hlt : k < 3
        · obtain ⟨y0, y1, y2⟩ := g2.c3
          have n0 := F0.cell hlt
          have hkl : k < H.Lk.length := by rw [OK.out.ll]; exact hlt
          obtain ⟨p, hpa, hpb, p0⟩ := (L.below hb).row' hkl
          rw [OK.out.lr k hlt] at p0
          have S3 := L.s3 k hkl
          obtain ⟨ak, hak⟩ := S3.ptr (by rw [OK.out.lr k hlt]; omega)
          rw [hak] at p0 S3
          obtain ⟨q, hqa, hqb, q0⟩ := (L.s2.below hb).at1' (k := k) (by rw [OK.out.la]; exact hlt)
          obtain ⟨r, hra, hrb, r0⟩ := (L.s1.below hb).at1' (k := k) (by rw [OK.out.lg]; exact hlt)
          obtain ⟨s, hsa, hsb, s0⟩ := (SP.below hb).at1' (k := k) (by have := EP.out; omega)
          have hsz := hb.size
          have hpb1 : p.block < wr.heap.size := by omega
          have hqb1 : q.block < wr.heap.size := by omega
          have hrb1 : r.block < wr.heap.size := by omega
          have hsb1 : s.block < wr.heap.size := by omega
          have bA := OK.out.a k hlt
          have bG := OK.out.g k hlt
          have bh := hcl_bd X k
          have bx := (unhide HFB) k 3 hlt (Nat.le_refl _)
          have hz := (unhide HFZ) k
          have bz := (unhide HFB) k 0 hlt (by omega)
          have hv : stpV H X Pw amb k = clipI (hcl X k + hfl H X amb k 3 / 65536 + g H.G k * clipI (g Pw k) 0 1073741824) (-1099511627776) 1099511627776 := rfl
          have hc1 := fun W => clipHeQ (g Pw k) 0 1073741824 (by omega) W
          have b1 := clip_bd (g Pw k) 0 1073741824 (by omega)
          obtain ⟨h, hh⟩ : ∃ x, hcl X k = x := ⟨_, rfl⟩
          rw [hh] at bh hz hv
          simp only [hh] at n0
          obtain ⟨AA, hA⟩ : ∃ x, g H.Am k = x := ⟨_, rfl⟩
          rw [hA] at bA hz q0
          obtain ⟨GG, hG⟩ : ∃ x, g H.G k = x := ⟨_, rfl⟩
          rw [hG] at bG hv r0
          obtain ⟨PP, hP⟩ : ∃ x, g Pw k = x := ⟨_, rfl⟩
          rw [hP] at hv s0 b1
          simp only [hP] at hc1
          obtain ⟨Q, hQ⟩ : ∃ x, clipI PP 0 1073741824 = x := ⟨_, rfl⟩
          rw [hQ] at hv b1
          simp only [hQ] at hc1
          rw [hz] at bz
          have e1 : wrap64 (WA - h) = WA - h := by unfold wrap64; omega
          have e2 : IntKind.i64.wrap (AA * (WA - h)) = AA * (WA - h) := IntWalk.i64_in _ (by omega)
          have e2b : wrap64 (AA * (WA - h)) = AA * (WA - h) := by unfold wrap64; omega
          have mg := share_mul (b := Q) (A := 1073741824) bG.1 bG.2 (by omega)
          obtain ⟨GQ, hGQ⟩ : ∃ x, GG * Q = x := ⟨_, rfl⟩
          have hGQ2 := hGQ
          rw [hGQ] at hv mg
          have e3 : IntKind.i64.wrap (GG * Q) = GQ := by rw [hGQ]; exact IntWalk.i64_in _ (by omega)
          have e3b : wrap64 (GG * Q) = GQ := by rw [hGQ]; unfold wrap64; omega
          obtain ⟨F, hF⟩ : ∃ x, hfl H X amb k 3 / 65536 = x := ⟨_, rfl⟩
          have bF : -8796093022208 ≤ F ∧ F ≤ 8796093022208 := by omega
          rw [hF] at hv
          have e4 : wrap64 (h + F) = h + F := by unfold wrap64; omega
          have e5 : wrap64 (h + F + GQ) = h + F + GQ := by unfold wrap64; omega
          have e4b : IntKind.i64.wrap (h + F) = h + F := IntWalk.i64_in _ (by omega)
          have e5b : IntKind.i64.wrap (h + F + GQ) = h + F + GQ := IntWalk.i64_in _ (by omega)
          have hc2 := fun W => clipHeQ (h + F + GQ) (-1099511627776) 1099511627776 (by omega) W
          obtain ⟨Z, hZ⟩ : ∃ x, clipI (h + F + GQ) (-1099511627776) 1099511627776 = x := ⟨_, rfl⟩
          rw [hZ] at hv
          simp only [hZ] at hc2
          have HC1 := hide hc1
          have HC2 := hide hc2
          have HVV := Lib.hid hv
          have HZ0 := Lib.hid hz
          have HFF := Lib.hid hF
          have HHH := Lib.hid hh
          clear hc1 hc2 hv hz hF hh hA hG hP hQ hZ hGQ hGQ2
          go_wp2_with fail
          go_quiet ((go_at_call 76; first | exact quiet_left ((unhide HWM) _) | exact quiet_add_left ((unhide HWM) _)))
          go_wp2
          obtain ⟨W, hW⟩ : ∃ W, wr.drewN nq = W := ⟨_, rfl⟩
          replace hown : W.ownsRow (w1.heap.size + 1) 3 1 (.slice A k c) k (rows (stps H X Pw amb k)).flatten := by rw [← hW]; exact hown
          replace F0 : Fil W w1.heap.size (hcl X) 3 3 := by rw [← hW]; exact F0
          replace g2 : Blk W w.heap.size 33 #[.slice (some ad1) 3 c1, .slice (some ad2) 3 c2, .slice (some ad3) 3 c3] := by rw [← hW]; exact g2
          replace hb : Below w.heap.size w W := by rw [← hW]; exact below_drewN hb _
          replace p0 : W.cell? p = some (.slice (some ak) 3 (PC k)) := by rw [← hW]; exact p0
          replace r0 : W.cell? r = some (.int .i64 GG) := by rw [← hW]; exact r0
          replace s0 : W.cell? s = some (.int .i64 PP) := by rw [← hW]; exact s0
          have hsW : wr.heap.size = W.heap.size := by rw [← hW]; rfl
          simp only [hW]
          clear hW y0 y1 y2 n0 q0
          rw [hsW] at lf lg hsz hpb1 hqb1 hrb1 hsb1
          clear hsW
          obtain ⟨y0, y1, y2⟩ := g2.c3
          go_loopw [17, 75] (fun x j wr => ∃ m : Nat, m ≤ 3 ∧ j = .int .i64 m ∧ x = .int .i64 (hfl H X amb k m) ∧ wr = W) (fun _ j _ => 3 - (intOf j).toNat)
          case atStart => exact ⟨0, by omega, rfl, by rw [HZ0.out], rfl⟩
          case round =>
            obtain ⟨m, hm, rfl, rfl, hw⟩ := hrel
            obtain rfl := hw.symm
            by_cases hmt : m < 3
            · obtain ⟨t, hta, htb, t0⟩ := (S3.below hb).at1' (k := m) (by rw [OK.out.lr k hlt]; exact hmt)
              replace t0 : W.cell? t = some (.int .i64 (lk H k m)) := t0
              have n1 := F0.cell hmt
              have htb1 : t.block < W.heap.size := by omega
              have hs := hfl_succ H X amb k m
              have b2 := (unhide HFB) k m hlt (by omega)
              have b3 := (unhide HFB) k (m + 1) hlt (by omega)
              have b4 := OK.out.l k hlt m hmt
              have b5 := hcl_bd X m
              rw [hs] at b3
              rw [HHH.out] at hs b3
              obtain ⟨Y, hY⟩ : ∃ x, hfl H X amb k m = x := ⟨_, rfl⟩
              obtain ⟨K, hK⟩ : ∃ x, lk H k m = x := ⟨_, rfl⟩
              obtain ⟨N, hN⟩ : ∃ x, hcl X m = x := ⟨_, rfl⟩
              rw [hK] at t0 b4
              rw [hN] at n1 b5
              rw [hY] at b2
              rw [hY, hK, hN] at b3 hs
              simp only [hY]
              have f1 : wrap64 (N - h) = N - h := by unfold wrap64; omega
              have mk := share_mul (b := N - h) (A := 2199023255552) b4.1 b4.2 (by omega)
              have f2 : IntKind.i64.wrap (K * (N - h)) = K * (N - h) := IntWalk.i64_in _ (by omega)
              have f2b : wrap64 (K * (N - h)) = K * (N - h) := by unfold wrap64; omega
              have f3 : wrap64 (Y + K * (N - h)) = Y + K * (N - h) := by unfold wrap64; omega
              have HS := Lib.hid hs
              clear hY hK hN hs
              go_wp2
              go_roundw
              case rel => exact ⟨m + 1, by omega, by go_num, by rw [HS.out], by trivial⟩
              case measure => simp [intOf]; omega
            · obtain rfl : m = 3 := by omega
              clear hmt hm
              have hF := HFF.out
              obtain ⟨Y, hY⟩ : ∃ x, hfl H X amb k 3 = x := ⟨_, rfl⟩
              rw [hY] at hF bx
              simp only [hY]
              clear hY
              have hones : ∀ u ∈ [Value.int .i64 Z], u.oneCell' = true := by
                intro u hu; simp at hu; subst hu; rfl
              have h63 : k + 1 ≤ maxLen := by unfold maxLen; omega
              have hby : (k + 1) * 8 ≤ 140737488355328 := by omega
              have hownd : W.drew.ownsRow (w1.heap.size + 1) 3 1 (.slice A k c) k (rows (stps H X Pw amb k)).flatten := hown
              have hbase : w1.heap.size + 1 ≤ (W.drew.alloc (.cells #[.int .i64 Z] 3)).heap.size := by simp; omega
              have hne : ∀ g, g < w1.heap.size + 1 ∨ W.heap.size ≤ g → some g ≠ (Value.slice A k c).ownBlock := fun g hg => own_ne hown hg
              have hge := own_ge hown
              go_wp2_with fail
              refine wp_region_mix 18 (by kernel_rfl) (by kernel_rfl) (fun _ _ _ _ _ h => h) ?_
              simp only [List.take_succ_cons, List.take_zero, List.drop_succ_cons, List.drop_zero]
              repeat still_step
              still_call ((unhide HC1) _)
              repeat still_step
              still_call ((unhide HC2) _)
              repeat still_step
              refine wpStill_nil ?_
              change wpList _ _ _ _ _ W.drew
              go_wp2_with (at_builtin; refine wpList_append_lies _ (by rfl) _ _ _ (by rfl) (w1.heap.size + 1) 3 i0 _ 1 8 Tryz.underlying22 hi hz0 hz1 hz2 (by rfl) (by decide) _ _ _ (by rfl) (hownd.alloc _) ⟨W.heap.size, 0, none⟩ 1 1 [.int .i64 Z] (by rfl) (by rfl) (news_alloc _ [_] _ _ (by simp)) hones (by decide) h63 hby hbase (W.heap.size + 1) (by simp) ?_; intro g cap wx hown' hgrow hat hlt1)
              all_goals
                go_wp2
                go_roundw
                case rel =>
                  have hN := (below_drewN hb 1).alloc hb.size (.cells #[.int .i64 Z] 3) |>.grown hgrow (by simp; omega) (fun g hg => by have := hge g hg; omega)
                  have hF1 := ((F0.drewN 1).alloc (.cells #[.int .i64 Z] 3)).grown hgrow (hne _ (by omega))
                  have hG1 := (g2.drew.alloc (.cells #[.int .i64 Z] 3)).grown hgrow (hne _ (by omega))
                  rw [← HVV.out, ← rows_app, ← stps_succ] at hown'
                  repeat apply Exists.intro
                  refine And.intro ?_ rfl
                  exact ⟨k + 1, some ⟨g, 0, none⟩, cap, by omega, by go_num, rfl, hown', hF1, hG1, hN⟩
                case measure => simp [intOf]; omega
        · obtain rfl : k = 3 := by omega
          obtain ⟨A', c', hv, hS, hfr⟩ := Sl.of_own (rs := rows (stps H X Pw amb 3)) hown (rows_len _) (by rw [rows_length, stps_len])
          injection hv with v1 v2 v3
          subst v1 v3
          go_wp2
          go_ret2
          exact ⟨A, ⟨c, rfl⟩, hS, fun ad h => (by have h1 := hfr ad h; have h2 := HB1.size; omega), hb⟩
end Go.Proofs.YtpfkiohknpeifaaGreat
