/- The walks of the heat network's check, and of the reference's. -/
import Derived.Test.YtpfkiohknpeifaaGreatPHeatS
namespace Go.Proofs.YtpfkiohknpeifaaGreat
open Go.RowKit
theorem ht_none {H : Hc} (h : H.G.length = 0) : htCode H = 11 := if_pos h
theorem ht_many {H : Hc} (h : 8 < H.G.length) : htCode H = 4 := by unfold htCode; rw [if_neg (by omega), if_pos h]
theorem ht_shape {H : Hc} (h0 : H.G.length ≠ 0) (h8 : ¬ 8 < H.G.length) (h : H.Am.length ≠ H.G.length ∨ H.Lk.length ≠ H.G.length) : htCode H = 11 := by unfold htCode; rw [if_neg h0, if_neg h8, if_pos h]
theorem ht_row {H : Hc} {k : Nat} (h0 : H.G.length ≠ 0) (h8 : ¬ 8 < H.G.length) (h1 : H.Am.length = H.G.length) (h2 : H.Lk.length = H.G.length) (hk : k < H.G.length) (hg : ∀ j, j < k → rwE H H.G.length j = 0) (h : (H.Lk.getD k []).length ≠ H.G.length) : htCode H = 11 := by
  have e : rwE H H.G.length k = 11 := if_neg h
  have hf := fe_hit hk hg (by rw [e]; decide)
  unfold htCode
  rw [if_neg h0, if_neg h8, if_neg (by omega), if_pos (by rw [hf, e]; decide), hf, e]
theorem ht_rows {H : Hc} (h0 : H.G.length ≠ 0) (h8 : ¬ 8 < H.G.length) (h1 : H.Am.length = H.G.length) (h2 : H.Lk.length = H.G.length) (hg : ∀ j, j < H.G.length → rwE H H.G.length j = 0) : htCode H = fe (ncE H H.G.length) H.G.length := by
  have hf := fe_none hg
  unfold htCode
  rw [if_neg h0, if_neg h8, if_neg (by omega), if_neg (by rw [hf]; decide)]
theorem rw_len {H : Hc} {n k : Nat} (h : rwE H n k = 0) : (H.Lk.getD k []).length = n := by
  unfold rwE at h
  split at h
  · assumption
  · omega
theorem cc_bd {H : Hc} {i j : Nat} (h : ccE H i j = 0) : 0 ≤ lk H i j ∧ lk H i j ≤ 65536 := by
  unfold ccE at h
  split at h
  · rename_i q; exact wiB_iff.1 q
  · omega
theorem nc_range {H : Hc} {n k : Nat} (h : ¬ (wiB (g H.G k) 0 65536 = true ∧ wiB (g H.Am k) 0 65536 = true)) : ncE H n k = 3 := if_neg h
theorem nc_cc {H : Hc} {n k m : Nat} (h : wiB (g H.G k) 0 65536 = true ∧ wiB (g H.Am k) 0 65536 = true) (hm : m < n) (hg : ∀ j, j < m → ccE H k j = 0) (hn : ccE H k m ≠ 0) : ncE H n k = ccE H k m := by
  have hf := fe_hit hm hg hn
  unfold ncE
  rw [if_pos h, if_pos (by rw [hf]; exact hn), hf]
theorem nc_end {H : Hc} {n k : Nat} (h : wiB (g H.G k) 0 65536 = true ∧ wiB (g H.Am k) 0 65536 = true) (hg : ∀ j, j < n → ccE H k j = 0) : ncE H n k = if 65536 < g H.Am k + sumN (lk H k) n then 16 else 0 := by
  have hf := fe_none hg
  unfold ncE
  rw [if_pos h, if_neg (by rw [hf]; decide)]
theorem sum_bd {H : Hc} {k m : Nat} (hm : m ≤ 8) (h : ∀ j, j < m → ccE H k j = 0) : 0 ≤ sumN (lk H k) m ∧ sumN (lk H k) m ≤ 524288 := by
  have := sumN_bd (f := lk H k) (A := 65536) (n := m) fun i hi => cc_bd (h i hi)
  omega
set_option maxRecDepth 100000 in
set_option maxHeartbeats 3200000 in
theorem hckM (H : Hc) (A1 A2 A3 : Option Addr) (n1 n2 n3 c1 c2 c3 : Nat) (PA : Nat → Option Addr) (PC : Nat → Nat) (w : World) (L : Hy w w.heap.size H A1 A2 A3 n1 n2 n3 PA PC) :
    Calls Tryz.prog 32 #[.agg #[.slice A1 n1 c1, .slice A2 n2 c2, .slice A3 n3 c3]] w fun e w' => e = .returned (errV (htCode H)) ∧ Below w.heap.size w w' := by
  have hb0 := (Below.refl w.heap.size w).alloc (Nat.le_refl _) (.cells #[.slice A1 n1 c1, .slice A2 n2 c2, .slice A3 n3 c3] 33)
  have g0 := Blk.new w 33 #[.slice A1 n1 c1, .slice A2 n2 c2, .slice A3 n3 c3]
  have N1 := Lib.hid L.e1
  have N2 := Lib.hid L.e2
  have N3 := Lib.hid L.e3
  go_enter Tryz.func32, Tryz.ntmps32
  by_cases h0 : n1 = 0
  · have HE := Lib.hid (ht_none (H := H) (by rw [← N1.out]; exact h0))
    subst h0
    go_wp2
    go_ret
    exact ⟨by rw [HE.out]; rfl, hb0⟩
  by_cases h8 : 8 < n1
  · have HE := Lib.hid (ht_many (H := H) (by rw [← N1.out]; exact h8))
    go_wp2
    go_ret
    exact ⟨by rw [HE.out]; rfl, hb0⟩
  by_cases h1 : n2 = n1
  case neg =>
    have HE := Lib.hid (ht_shape (H := H) (by rw [← N1.out]; exact h0) (by rw [← N1.out]; exact h8) (Or.inl (by rw [← N1.out, ← N2.out]; exact h1)))
    go_wp2
    go_ret
    exact ⟨by rw [HE.out]; rfl, hb0⟩
  subst h1
  by_cases h2 : n3 = n2
  case neg =>
    have HE := Lib.hid (ht_shape (H := H) (by rw [← N1.out]; exact h0) (by rw [← N1.out]; exact h8) (Or.inr (by rw [← N1.out, ← N3.out]; exact h2)))
    go_wp2
    go_ret
    exact ⟨by rw [HE.out]; rfl, hb0⟩
  subst h2
  have HR := Lib.hid (fun k hk hg h => ht_row (H := H) (k := k) (by rw [← N1.out]; exact h0) (by rw [← N1.out]; exact h8) (by rw [← N1.out, ← N2.out]) (by rw [← N1.out, ← N3.out]) hk hg h)
  have HQ := Lib.hid (fun hg => ht_rows (H := H) (by rw [← N1.out]; exact h0) (by rw [← N1.out]; exact h8) (by rw [← N1.out, ← N2.out]) (by rw [← N1.out, ← N3.out]) hg)
  obtain ⟨ad3, _, rfl, _⟩ := L.row (i := 0) (by rw [← N3.out]; omega)
  obtain ⟨ad1, rfl⟩ := L.s1.ptr (by rw [← N1.out]; omega)
  obtain ⟨ad2, rfl⟩ := L.s2.ptr (by rw [← N2.out]; omega)
  go_wp2
  go_loopw [39] (fun i wr => ∃ k : Nat, k ≤ n3 ∧ i = .int .i64 k ∧ Hid (∀ j, j < k → rwE H n3 j = 0) ∧ Blk wr w.heap.size 33 #[.slice (some ad1) n3 c1, .slice (some ad2) n3 c2, .slice (some ad3) n3 c3] ∧ Below w.heap.size w wr) (fun i _ => n3 - (intOf i).toNat)
  case atStart => exact ⟨0, Nat.zero_le _, rfl, (fun j h => by omega), g0, hb0⟩
  case round =>
    clear g0 hb0
    obtain ⟨k, hk, rfl, hg, g1, hb⟩ := hrel
    have hsz := g1.lt
    obtain ⟨y0, y1, y2⟩ := g1.c3
    by_cases hlt : k < n3
    · have hkl : k < H.Lk.length := by have := N3.out; omega
      obtain ⟨p, hpa, hpb, p0⟩ := (L.below hb).row' hkl
      have hpb1 : p.block < wr.heap.size := by omega
      obtain ⟨m, hm⟩ : ∃ m, (H.Lk.getD k []).length = m := ⟨_, rfl⟩
      rw [hm] at p0
      by_cases hr : m = n3
      · have HM := Lib.hid hm
        clear hm
        subst hr
        go_wp2
        go_roundw
        case rel => exact ⟨k + 1, by omega, by go_num, (fun j hj => by
          by_cases hjk : j = k
          · subst hjk; exact if_pos HM.out
          · exact hg.out j (by omega)), g1, hb⟩
        case measure => simp [intOf]; omega
      · have HE := Lib.hid (HR.out k (by have := N1.out; omega) (fun j hj => by rw [← N1.out]; exact hg.out j hj) (by rw [hm, ← N1.out]; exact hr))
        clear hm
        go_wp2
        go_ret
        exact ⟨by rw [HE.out]; rfl, hb⟩
    · obtain rfl : n3 = k := by omega
      have HL := Lib.hid (fun j (hj : j < n3) => rw_len (hg.out j hj))
      have hq := HQ.out (fun j hj => by rw [← N1.out]; exact hg.out j (by have := N1.out; omega))
      rw [← N1.out] at hq
      have HQ2 := Lib.hid hq
      clear hlt hk hq
      go_wp2
      go_loopw [52] (fun i wr => ∃ k : Nat, k ≤ n3 ∧ i = .int .i64 k ∧ Hid (∀ j, j < k → ncE H n3 j = 0) ∧ Blk wr w.heap.size 33 #[.slice (some ad1) n3 c1, .slice (some ad2) n3 c2, .slice (some ad3) n3 c3] ∧ Below w.heap.size w wr) (fun i _ => n3 - (intOf i).toNat)
      case atStart => exact ⟨0, Nat.zero_le _, rfl, (fun j h => by omega), g1, hb⟩
      case round =>
        clear g1 hb hsz y0 y1 y2
        obtain ⟨k, hk, rfl, hn, g2, hb⟩ := hrel
        have hsz := g2.lt
        obtain ⟨y0, y1, y2⟩ := g2.c3
        by_cases hlt : k < n3
        · have hkl : k < H.Lk.length := by have := N3.out; omega
          obtain ⟨p, hpa, hpb, p0⟩ := (L.below hb).row' hkl
          rw [HL.out k hlt] at p0
          have S3 := L.s3 k hkl
          obtain ⟨ak, hak⟩ := S3.ptr (by rw [HL.out k hlt]; omega)
          rw [hak] at p0 S3
          obtain ⟨q, hqa, hqb, q0⟩ := (L.s1.below hb).at1' (k := k) (by have := N1.out; omega)
          obtain ⟨r, hra, hrb, r0⟩ := (L.s2.below hb).at1' (k := k) (by have := N2.out; omega)
          have hpb1 : p.block < wr.heap.size := by omega
          have hqb1 : q.block < wr.heap.size := by omega
          have hrb1 : r.block < wr.heap.size := by omega
          obtain ⟨X, hX⟩ : ∃ x, g H.G k = x := ⟨_, rfl⟩
          obtain ⟨Y, hY⟩ : ∃ x, g H.Am k = x := ⟨_, rfl⟩
          rw [hX] at q0
          rw [hY] at r0
          have HX := Lib.hid hX
          have HY := Lib.hid hY
          clear hX hY
          rcases Bool.eq_false_or_eq_true (wiB X 0 65536) with w1 | w1
          case inr =>
            have he : ncE H n3 k = 3 := nc_range (by rw [HX.out, w1]; simp)
            have HE := Lib.hid (show htCode H = 3 by rw [HQ2.out, fe_hit hlt hn.out (by rw [he]; decide), he])
            clear he
            go_wp2_with (first | (go_at_call 81; (with_reducible refine (shareM _ _).mono ?_); rintro e w' ⟨rfl, rfl⟩))
            go_ret
            exact ⟨by rw [HE.out]; rfl, hb⟩
          rcases Bool.eq_false_or_eq_true (wiB Y 0 65536) with w2 | w2
          case inr =>
            have he : ncE H n3 k = 3 := nc_range (by rw [HY.out, w2]; simp)
            have HE := Lib.hid (show htCode H = 3 by rw [HQ2.out, fe_hit hlt hn.out (by rw [he]; decide), he])
            clear he
            go_wp2_with (first | (go_at_call 81; (with_reducible refine (shareM _ _).mono ?_); rintro e w' ⟨rfl, rfl⟩))
            go_ret
            exact ⟨by rw [HE.out]; rfl, hb⟩
          have HW : Hid (wiB (g H.G k) 0 65536 = true ∧ wiB (g H.Am k) 0 65536 = true) := Lib.hid ⟨by rw [HX.out]; exact w1, by rw [HY.out]; exact w2⟩
          have hy := wiB_iff.1 w2
          go_wp2_with (first | (go_at_call 81; (with_reducible refine (shareM _ _).mono ?_); rintro e w' ⟨rfl, rfl⟩))
          clear q0 r0 p0 y0 y1 y2 hqa hra hpa hqb hrb hpb hqb1 hrb1 hpb1
          go_loopw [8, 81] (fun s j wr => ∃ m : Nat, m ≤ n3 ∧ j = .int .i64 m ∧ s = .int .i64 (Y + sumN (lk H k) m) ∧ Hid (∀ x, x < m → ccE H k x = 0) ∧ Blk wr w.heap.size 33 #[.slice (some ad1) n3 c1, .slice (some ad2) n3 c2, .slice (some ad3) n3 c3] ∧ Below w.heap.size w wr) (fun _ j _ => n3 - (intOf j).toNat)
          case atStart => exact ⟨0, Nat.zero_le _, rfl, by simp [sumN], (fun j h => by omega), g2, hb⟩
          case round =>
            clear g2 hb hsz
            obtain ⟨m, hm, rfl, rfl, hcc, g3, hb⟩ := hrel
            have hsz := g3.lt
            obtain ⟨y0, y1, y2⟩ := g3.c3
            have sb := sum_bd (by omega) hcc.out
            obtain ⟨T, hT⟩ : ∃ x, sumN (lk H k) m = x := ⟨_, rfl⟩
            rw [hT] at sb
            simp only [hT]
            have HT := Lib.hid hT
            clear hT
            by_cases hmt : m < n3
            · have hml : m < H.Lk.length := by have := N3.out; omega
              obtain ⟨p, hpa, hpb, p0⟩ := (L.below hb).row' hml
              rw [HL.out m hmt] at p0
              have S4 := L.s3 m hml
              obtain ⟨am, ham⟩ := S4.ptr (by rw [HL.out m hmt]; omega)
              rw [ham] at p0 S4
              obtain ⟨q, hqa, hqb, q0⟩ := (S3.below hb).at1' (k := m) (by rw [HL.out k hlt]; exact hmt)
              obtain ⟨r, hra, hrb, r0⟩ := (S4.below hb).at1' (k := k) (by rw [HL.out m hmt]; exact hlt)
              have hpb1 : p.block < wr.heap.size := by omega
              have hqb1 : q.block < wr.heap.size := by omega
              have hrb1 : r.block < wr.heap.size := by omega
              obtain ⟨U, hU⟩ : ∃ x, lk H k m = x := ⟨_, rfl⟩
              obtain ⟨V, hV⟩ : ∃ x, lk H m k = x := ⟨_, rfl⟩
              replace q0 : wr.cell? q = some (.int .i64 U) := by rw [← hU]; exact q0
              replace r0 : wr.cell? r = some (.int .i64 V) := by rw [← hV]; exact r0
              have hcE : ccE H k m = if wiB U 0 65536 = true then (if U ≠ V ∨ (k = m ∧ U ≠ 0) then 2 else 0) else 3 := by rw [← hU, ← hV]; rfl
              have HU := Lib.hid hU
              have HCE := Lib.hid hcE
              clear hU hV hcE
              rcases Bool.eq_false_or_eq_true (wiB U 0 65536) with w3 | w3
              case inr =>
                have hc : ccE H k m = 3 := by rw [HCE.out, if_neg (by rw [w3]; simp)]
                have he : ncE H n3 k = 3 := by rw [nc_cc HW.out hmt hcc.out (by rw [hc]; decide), hc]
                have HE := Lib.hid (show htCode H = 3 by rw [HQ2.out, fe_hit hlt hn.out (by rw [he]; decide), he])
                clear hc he
                go_wp2_with (first | (go_at_call 81; (with_reducible refine (shareM _ _).mono ?_); rintro e w' ⟨rfl, rfl⟩))
                go_ret
                exact ⟨by rw [HE.out]; rfl, hb⟩
              by_cases e1 : U = V
              case neg =>
                have hc : ccE H k m = 2 := by rw [HCE.out, if_pos w3, if_pos (Or.inl e1)]
                have he : ncE H n3 k = 2 := by rw [nc_cc HW.out hmt hcc.out (by rw [hc]; decide), hc]
                have HE := Lib.hid (show htCode H = 2 by rw [HQ2.out, fe_hit hlt hn.out (by rw [he]; decide), he])
                clear hc he
                go_wp2_with (first | (go_at_call 81; (with_reducible refine (shareM _ _).mono ?_); rintro e w' ⟨rfl, rfl⟩))
                go_ret
                exact ⟨by rw [HE.out]; rfl, hb⟩
              subst e1
              have hu := wiB_iff.1 w3
              have es : wrap64 (Y + T + U) = Y + T + U := by unfold wrap64; omega
              by_cases e2 : k = m
              · by_cases e3 : U = 0
                · have HC0 := Lib.hid (show ccE H k m = 0 by rw [HCE.out, if_pos w3, if_neg (by simp [e3])])
                  subst e3
                  subst e2
                  go_wp2_with (first | (go_at_call 81; (with_reducible refine (shareM _ _).mono ?_); rintro e w' ⟨rfl, rfl⟩))
                  go_roundw
                  case rel => exact ⟨k + 1, by omega, by go_num, by (show Value.int .i64 _ = Value.int .i64 (Y + (sumN (lk H k) k + lk H k k))); rw [HT.out, HU.out]; congr 1; first | omega | skip, (fun x hx => by
                    by_cases hxm : x = k
                    · subst hxm; exact HC0.out
                    · exact hcc.out x (by omega)), g3, hb⟩
                  case measure => simp [intOf]; omega
                · have hc : ccE H k m = 2 := by rw [HCE.out, if_pos w3, if_pos (Or.inr ⟨e2, e3⟩)]
                  have he : ncE H n3 k = 2 := by rw [nc_cc HW.out hmt hcc.out (by rw [hc]; decide), hc]
                  have HE := Lib.hid (show htCode H = 2 by rw [HQ2.out, fe_hit hlt hn.out (by rw [he]; decide), he])
                  clear hc he
                  subst e2
                  go_wp2_with (first | (go_at_call 81; (with_reducible refine (shareM _ _).mono ?_); rintro e w' ⟨rfl, rfl⟩))
                  go_ret
                  exact ⟨by rw [HE.out]; rfl, hb⟩
              · have HC0 := Lib.hid (show ccE H k m = 0 by rw [HCE.out, if_pos w3, if_neg (by simp [e2])])
                have e2b : ¬ ((k : Nat) : Int) = (m : Int) := by omega
                go_wp2_with (first | (go_at_call 81; (with_reducible refine (shareM _ _).mono ?_); rintro e w' ⟨rfl, rfl⟩))
                go_roundw
                case rel => exact ⟨m + 1, by omega, by go_num, by (show Value.int .i64 _ = Value.int .i64 (Y + (sumN (lk H k) m + lk H k m))); rw [HT.out, HU.out]; congr 1; first | omega | skip, (fun x hx => by
                  by_cases hxm : x = m
                  · subst hxm; exact HC0.out
                  · exact hcc.out x (by omega)), g3, hb⟩
                case measure => simp [intOf]; omega
            · obtain rfl : n3 = m := by omega
              have hne := nc_end HW.out hcc.out
              rw [HT.out, HY.out] at hne
              by_cases h6 : 65536 < Y + T
              · rw [if_pos h6] at hne
                have HE := Lib.hid (show htCode H = 16 by rw [HQ2.out, fe_hit hlt hn.out (by rw [hne]; decide), hne])
                clear hne
                go_wp2_with (first | (go_at_call 81; (with_reducible refine (shareM _ _).mono ?_); rintro e w' ⟨rfl, rfl⟩))
                go_ret
                exact ⟨by rw [HE.out]; rfl, hb⟩
              · rw [if_neg h6] at hne
                have HE := Lib.hid hne
                clear hne
                go_wp2_with (first | (go_at_call 81; (with_reducible refine (shareM _ _).mono ?_); rintro e w' ⟨rfl, rfl⟩))
                go_roundw
                case rel => exact ⟨_, _, _, _, _, _, _, ⟨k + 1, by omega, rfl, (fun j hj => by
                  by_cases hjk : j = k
                  · subst hjk; exact HE.out
                  · exact hn.out j (by omega))⟩, rfl, rfl, rfl, rfl, rfl, rfl, by go_num⟩
                case measure => simp [intOf]; omega
        · obtain rfl : n3 = k := by omega
          have HE := Lib.hid (show htCode H = 0 by rw [HQ2.out]; exact fe_none hn.out)
          go_wp2
          go_ret
          exact ⟨by rw [HE.out]; rfl, hb⟩
end Go.Proofs.YtpfkiohknpeifaaGreat
