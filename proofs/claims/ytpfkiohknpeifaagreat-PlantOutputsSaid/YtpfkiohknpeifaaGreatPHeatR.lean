/- The walks of the reference's node and Check of a heat network. -/
import Derived.Test.YtpfkiohknpeifaaGreatPHeatC
namespace Go.Proofs.YtpfkiohknpeifaaGreat
open Go.RowKit
set_option maxRecDepth 100000 in
set_option maxHeartbeats 3200000 in
theorem nodeR (H : Hc) (A1 A2 A3 : Option Addr) (n1 n2 n3 c1 c2 c3 : Nat) (PA : Nat → Option Addr) (PC : Nat → Nat) (w : World) (L : Hy w w.heap.size H A1 A2 A3 n1 n2 n3 PA PC) (k : Nat) (hk : k < H.G.length) (h8 : H.G.length ≤ 8) (l2 : H.Am.length = H.G.length) (l3 : H.Lk.length = H.G.length) (lr : ∀ j, j < H.G.length → (H.Lk.getD j []).length = H.G.length) :
    Calls Tryz.prog 74 #[.agg #[.slice A1 n1 c1, .slice A2 n2 c2, .slice A3 n3 c3], .int .i64 (k : Nat)] w fun e w' => e = .returned (.int .i64 (ncE H H.G.length k)) ∧ Below w.heap.size w w' := by
  have hb := (Below.refl w.heap.size w).alloc (Nat.le_refl _) (.cells #[.slice A1 n1 c1, .slice A2 n2 c2, .slice A3 n3 c3] 33)
  have g0 := Blk.new w 33 #[.slice A1 n1 c1, .slice A2 n2 c2, .slice A3 n3 c3]
  obtain rfl : n1 = n3 := by rw [L.e1, L.e3, l3]
  obtain rfl : n2 = n1 := by rw [L.e2, L.e1, l2]
  obtain ⟨n3, hn3⟩ : ∃ n, n2 = n := ⟨_, rfl⟩
  subst hn3
  have eN := L.e1
  rw [← eN] at lr hk h8 l2 l3 ⊢
  obtain ⟨ad1, rfl⟩ := L.s1.ptr (by rw [← eN]; omega)
  obtain ⟨ad2, rfl⟩ := L.s2.ptr (by rw [l2]; omega)
  obtain ⟨ad3, _, rfl, _⟩ := L.row (i := 0) (by omega)
  obtain ⟨q, hqa, hqb, q0⟩ := (L.s1.below ((Below.refl w.heap.size w).alloc (Nat.le_refl _) (.cells #[.slice (some ad1) n2 c1, .slice (some ad2) n2 c2, .slice (some ad3) n2 c3] 33))).at1' (k := k) (by rw [← eN]; omega)
  obtain ⟨r, hra, hrb, r0⟩ := (L.s2.below ((Below.refl w.heap.size w).alloc (Nat.le_refl _) (.cells #[.slice (some ad1) n2 c1, .slice (some ad2) n2 c2, .slice (some ad3) n2 c3] 33))).at1' (k := k) (by rw [l2]; omega)
  have hqb1 : q.block < w.heap.size + 1 := by omega
  have hrb1 : r.block < w.heap.size + 1 := by omega
  have HK := Lib.hid hk
  have H8 := Lib.hid h8
  have HL3 := Lib.hid l3
  have HLR := Lib.hid lr
  have EN := Lib.hid eN
  have HL2 := Lib.hid l2
  clear l3 lr eN l2
  obtain ⟨X, hX⟩ : ∃ x, g H.G k = x := ⟨_, rfl⟩
  obtain ⟨Y, hY⟩ : ∃ x, g H.Am k = x := ⟨_, rfl⟩
  rw [hX] at q0
  rw [hY] at r0
  have HX := Lib.hid hX
  have HY := Lib.hid hY
  clear hX hY
  obtain ⟨y0, y1, y2⟩ := g0.c3
  go_enter Tryz.func74, Tryz.ntmps74
  by_cases a1 : X < 0
  · have HE := Lib.hid (show ncE H n2 k = 3 from nc_range (fun h => by have := wiB_iff.1 h.1; have := HX.out; omega))
    go_wp2
    go_ret
    exact ⟨by rw [HE.out] <;> rfl, hb⟩
  by_cases a2 : 65536 < X
  · have HE := Lib.hid (show ncE H n2 k = 3 from nc_range (fun h => by have := wiB_iff.1 h.1; have := HX.out; omega))
    go_wp2
    go_ret
    exact ⟨by rw [HE.out] <;> rfl, hb⟩
  by_cases a3 : Y < 0
  · have HE := Lib.hid (show ncE H n2 k = 3 from nc_range (fun h => by have := wiB_iff.1 h.2; have := HY.out; omega))
    go_wp2
    go_ret
    exact ⟨by rw [HE.out] <;> rfl, hb⟩
  by_cases a4 : 65536 < Y
  · have HE := Lib.hid (show ncE H n2 k = 3 from nc_range (fun h => by have := wiB_iff.1 h.2; have := HY.out; omega))
    go_wp2
    go_ret
    exact ⟨by rw [HE.out] <;> rfl, hb⟩
  have HW : Hid (wiB (g H.G k) 0 65536 = true ∧ wiB (g H.Am k) 0 65536 = true) := Lib.hid ⟨wiB_iff.2 (by have := HX.out; omega), wiB_iff.2 (by have := HY.out; omega)⟩
  go_wp2
  clear q0 r0 y0 y1 y2 hqa hra hqb hrb hqb1 hrb1 a1 a2
  go_loopw [5, 6] (fun s j wr => ∃ m : Nat, m ≤ n2 ∧ j = .int .i64 m ∧ s = .int .i64 (Y + sumN (lk H k) m) ∧ Hid (∀ x, x < m → ccE H k x = 0) ∧ Blk wr w.heap.size 33 #[.slice (some ad1) n2 c1, .slice (some ad2) n2 c2, .slice (some ad3) n2 c3] ∧ Below w.heap.size w wr) (fun _ j _ => n2 - (intOf j).toNat)
  case atStart => exact ⟨0, Nat.zero_le _, rfl, by simp [sumN], (fun j h => by omega), g0, hb⟩
  case round =>
    clear g0 hb
    obtain ⟨m, hm, rfl, rfl, hcc, g3, hb⟩ := hrel
    have hsz := g3.lt
    obtain ⟨y0, y1, y2⟩ := g3.c3
    have sb := sum_bd (by have := H8.out; omega) hcc.out
    obtain ⟨T, hT⟩ : ∃ x, sumN (lk H k) m = x := ⟨_, rfl⟩
    rw [hT] at sb
    simp only [hT]
    have HT := Lib.hid hT
    clear hT
    by_cases hmt : m < n2
    · obtain ⟨p, hpa, hpb, p0⟩ := (L.below hb).row' (i := k) (by have := HL3.out; omega)
      rw [HLR.out k hk] at p0
      have S3 := L.s3 k (by have := HL3.out; omega)
      obtain ⟨ak, hak⟩ := S3.ptr (by rw [HLR.out k hk]; omega)
      rw [hak] at p0 S3
      obtain ⟨p', hpa', hpb', p0'⟩ := (L.below hb).row' (i := m) (by have := HL3.out; omega)
      rw [HLR.out m hmt] at p0'
      have S4 := L.s3 m (by have := HL3.out; omega)
      obtain ⟨am, ham⟩ := S4.ptr (by rw [HLR.out m hmt]; omega)
      rw [ham] at p0' S4
      obtain ⟨q, hqa, hqb, q0⟩ := (S3.below hb).at1' (k := m) (by rw [HLR.out k hk]; exact hmt)
      obtain ⟨r, hra, hrb, r0⟩ := (S4.below hb).at1' (k := k) (by rw [HLR.out m hmt]; exact hk)
      have hpb1 : p.block < wr.heap.size := by omega
      have hpb2 : p'.block < wr.heap.size := by omega
      have hqb1 : q.block < wr.heap.size := by omega
      have hrb1 : r.block < wr.heap.size := by omega
      obtain ⟨U, hU⟩ : ∃ x, lk H k m = x := ⟨_, rfl⟩
      obtain ⟨V, hV⟩ : ∃ x, lk H m k = x := ⟨_, rfl⟩
      replace q0 : wr.cell? q = some (.int .i64 U) := by rw [← hU]; exact q0
      replace r0 : wr.cell? r = some (.int .i64 V) := by rw [← hV]; exact r0
      have hcE : ccE H k m = if wiB U 0 65536 = true then (if U ≠ V ∨ (k = m ∧ U ≠ 0) then 2 else 0) else 3 := by rw [← hU, ← hV]; rfl
      have HU := Lib.hid hU
      have HCE := Lib.hid hcE
      clear hU hV hcE
      by_cases b1 : U < 0
      · have hc : ccE H k m = 3 := by rw [HCE.out, if_neg (fun h => by have := wiB_iff.1 h; omega)]
        have HE := Lib.hid (show ncE H n2 k = 3 by rw [nc_cc HW.out hmt hcc.out (by rw [hc]; decide), hc])
        clear hc
        go_wp2
        go_ret
        exact ⟨by rw [HE.out] <;> rfl, hb⟩
      by_cases b2 : 65536 < U
      · have hc : ccE H k m = 3 := by rw [HCE.out, if_neg (fun h => by have := wiB_iff.1 h; omega)]
        have HE := Lib.hid (show ncE H n2 k = 3 by rw [nc_cc HW.out hmt hcc.out (by rw [hc]; decide), hc])
        clear hc
        go_wp2
        go_ret
        exact ⟨by rw [HE.out] <;> rfl, hb⟩
      have w3 : wiB U 0 65536 = true := wiB_iff.2 (by omega)
      by_cases e1 : U = V
      case neg =>
        have hc : ccE H k m = 2 := by rw [HCE.out, if_pos w3, if_pos (Or.inl e1)]
        have HE := Lib.hid (show ncE H n2 k = 2 by rw [nc_cc HW.out hmt hcc.out (by rw [hc]; decide), hc])
        clear hc w3
        go_wp2
        go_ret
        exact ⟨by rw [HE.out] <;> rfl, hb⟩
      subst e1
      have es : wrap64 (Y + T + U) = Y + T + U := by unfold wrap64; omega
      by_cases e2 : k = m
      · by_cases e3 : U = 0
        · have HC0 := Lib.hid (show ccE H k m = 0 by rw [HCE.out, if_pos w3, if_neg (by simp [e3])])
          subst e3
          subst e2
          clear w3 p0' hpa' hpb' hpb2 r0 hra hrb hrb1
          rw [hak] at ham
          obtain rfl : ak = am := by injection ham
          go_wp2
          go_roundw
          case rel => exact ⟨k + 1, by omega, by go_num, by (show Value.int .i64 _ = Value.int .i64 (Y + (sumN (lk H k) k + lk H k k))); rw [HT.out, HU.out]; congr 1; first | omega | skip, (fun x hx => by
            by_cases hxm : x = k
            · subst hxm; exact HC0.out
            · exact hcc.out x (by omega)), g3, hb⟩
          case measure => simp [intOf]; omega
        · have hc : ccE H k m = 2 := by rw [HCE.out, if_pos w3, if_pos (Or.inr ⟨e2, e3⟩)]
          have HE := Lib.hid (show ncE H n2 k = 2 by rw [nc_cc HW.out hmt hcc.out (by rw [hc]; decide), hc])
          clear hc w3
          subst e2
          clear p0' hpa' hpb' hpb2 r0 hra hrb hrb1
          rw [hak] at ham
          obtain rfl : ak = am := by injection ham
          go_wp2
          go_ret
          exact ⟨by rw [HE.out] <;> rfl, hb⟩
      · have HC0 := Lib.hid (show ccE H k m = 0 by rw [HCE.out, if_pos w3, if_neg (by simp [e2])])
        have e2b : ¬ ((k : Nat) : Int) = (m : Int) := by omega
        clear w3
        go_wp2
        go_roundw
        case rel => exact ⟨m + 1, by omega, by go_num, by (show Value.int .i64 _ = Value.int .i64 (Y + (sumN (lk H k) m + lk H k m))); rw [HT.out, HU.out]; congr 1; first | omega | skip, (fun x hx => by
          by_cases hxm : x = m
          · subst hxm; exact HC0.out
          · exact hcc.out x (by omega)), g3, hb⟩
        case measure => simp [intOf]; omega
    · obtain rfl : n2 = m := by omega
      have hne := nc_end HW.out hcc.out
      rw [HT.out, HY.out] at hne
      by_cases h6 : 65536 < Y + T
      · rw [if_pos h6] at hne
        have HE := Lib.hid hne
        clear hne
        go_wp2
        go_ret
        exact ⟨by rw [HE.out] <;> rfl, hb⟩
      · rw [if_neg h6] at hne
        have HE := Lib.hid hne
        clear hne
        go_wp2
        go_ret
        exact ⟨by rw [HE.out] <;> rfl, hb⟩
set_option maxRecDepth 100000 in
set_option maxHeartbeats 3200000 in
theorem hckR (H : Hc) (A1 A2 A3 : Option Addr) (n1 n2 n3 c1 c2 c3 : Nat) (PA : Nat → Option Addr) (PC : Nat → Nat) (w : World) (L : Hy w w.heap.size H A1 A2 A3 n1 n2 n3 PA PC) :
    Calls Tryz.prog 25 #[.agg #[.slice A1 n1 c1, .slice A2 n2 c2, .slice A3 n3 c3]] w fun e w' => e = .returned (.int .i64 (htCode H)) ∧ Below w.heap.size w w' := by
  have hb0 := (Below.refl w.heap.size w).alloc (Nat.le_refl _) (.cells #[.slice A1 n1 c1, .slice A2 n2 c2, .slice A3 n3 c3] 33)
  have g0 := Blk.new w 33 #[.slice A1 n1 c1, .slice A2 n2 c2, .slice A3 n3 c3]
  have N1 := Lib.hid L.e1
  have N2 := Lib.hid L.e2
  have N3 := Lib.hid L.e3
  go_enter Tryz.func25, Tryz.ntmps25
  by_cases h0 : n1 = 0
  · have HE := Lib.hid (ht_none (H := H) (by rw [← N1.out]; exact h0))
    subst h0
    go_wp2
    go_ret
    exact ⟨by rw [HE.out] <;> rfl, hb0⟩
  by_cases h8 : 8 < n1
  · have HE := Lib.hid (ht_many (H := H) (by rw [← N1.out]; exact h8))
    go_wp2
    go_ret
    exact ⟨by rw [HE.out] <;> rfl, hb0⟩
  by_cases h1 : n2 = n1
  case neg =>
    have HE := Lib.hid (ht_shape (H := H) (by rw [← N1.out]; exact h0) (by rw [← N1.out]; exact h8) (Or.inl (by rw [← N1.out, ← N2.out]; exact h1)))
    go_wp2
    go_ret
    exact ⟨by rw [HE.out] <;> rfl, hb0⟩
  subst h1
  by_cases h2 : n3 = n2
  case neg =>
    have HE := Lib.hid (ht_shape (H := H) (by rw [← N1.out]; exact h0) (by rw [← N1.out]; exact h8) (Or.inr (by rw [← N1.out, ← N3.out]; exact h2)))
    go_wp2
    go_ret
    exact ⟨by rw [HE.out] <;> rfl, hb0⟩
  subst h2
  have HR := Lib.hid (fun k hk hg h => ht_row (H := H) (k := k) (by rw [← N1.out]; first | exact h0 | exact H0.out) (by rw [← N1.out]; exact h8) (by rw [← N1.out, ← N2.out]) (by rw [← N1.out, ← N3.out]) hk hg h)
  have HQ := Lib.hid (fun hg => ht_rows (H := H) (by rw [← N1.out]; first | exact h0 | exact H0.out) (by rw [← N1.out]; exact h8) (by rw [← N1.out, ← N2.out]) (by rw [← N1.out, ← N3.out]) hg)
  obtain ⟨ad3, _, rfl, _⟩ := L.row (i := 0) (by rw [← N3.out]; omega)
  have h0' : ((n3 : Int) == 0) = false := by simp [h0]
  have H0 := Lib.hid h0
  clear h0
  go_wp2
  go_loopw [4] (fun i wr => ∃ k : Nat, k ≤ n3 ∧ i = .int .i64 k ∧ Hid (∀ j, j < k → rwE H n3 j = 0) ∧ Blk wr w.heap.size 33 #[.slice A1 n3 c1, .slice A2 n3 c2, .slice (some ad3) n3 c3] ∧ Below w.heap.size w wr) (fun i _ => n3 - (intOf i).toNat)
  case atStart => exact ⟨0, Nat.zero_le _, rfl, (fun j h => by omega), g0, hb0⟩
  case round =>
    clear g0 hb0
    obtain ⟨k, hk, rfl, hg, g1, hb⟩ := hrel
    have hsz := g1.lt
    obtain ⟨y0, y1, y2⟩ := g1.c3
    by_cases hlt : k < n3
    · have hkl : k < H.Lk.length := by have := N3.out; omega
      obtain ⟨p, hpa, hpb, p0⟩ := (L.below hb).row' hkl
      have hpb1 : p.block < wr.heap.size := by omega
      obtain ⟨m, hm⟩ : ∃ m, (H.Lk.getD k []).length = m := ⟨_, rfl⟩
      rw [hm] at p0
      by_cases hr : m = n3
      · have HM := Lib.hid hm
        clear hm
        subst hr
        go_wp2
        go_roundw
        case rel => exact ⟨k + 1, by omega, by go_num, (fun j hj => by
          by_cases hjk : j = k
          · subst hjk; exact if_pos HM.out
          · exact hg.out j (by omega)), g1, hb⟩
        case measure => simp [intOf]; omega
      · have HE := Lib.hid (HR.out k (by have := N1.out; omega) (fun j hj => by rw [← N1.out]; exact hg.out j hj) (by rw [hm, ← N1.out]; exact hr))
        clear hm
        go_wp2
        go_ret
        exact ⟨by rw [HE.out] <;> rfl, hb⟩
    · obtain rfl : n3 = k := by omega
      have HL := Lib.hid (fun j (hj : j < n3) => rw_len (hg.out j hj))
      have hq := HQ.out (fun j hj => by rw [← N1.out]; exact hg.out j (by have := N1.out; omega))
      rw [← N1.out] at hq
      have HQ2 := Lib.hid hq
      have hnd := fun (W : World) (k : Nat) (hk : k < n3) (h : Hy W W.heap.size H A1 A2 (some ad3) n3 n3 n3 PA PC) => nodeR H A1 A2 (some ad3) n3 n3 n3 c1 c2 c3 PA PC W h k (by rw [← N1.out]; exact hk) (by rw [← N1.out]; omega) (by rw [← N1.out, ← N2.out]) (by rw [← N1.out, ← N3.out]) (fun j hj => by rw [← N1.out]; exact HL.out j (by rw [N1.out]; exact hj))
      rw [← N1.out] at hnd
      have HND := hide hnd
      clear hlt hk hq hnd
      go_wp2
      clear y0 y1 y2 hsz
      go_loopw [5] (fun i wr => ∃ k : Nat, k ≤ n3 ∧ i = .int .i64 k ∧ Hid (∀ j, j < k → ncE H n3 j = 0) ∧ Blk wr w.heap.size 33 #[.slice A1 n3 c1, .slice A2 n3 c2, .slice (some ad3) n3 c3] ∧ Below w.heap.size w wr) (fun i _ => n3 - (intOf i).toNat)
      case atStart => exact ⟨0, Nat.zero_le _, rfl, (fun j h => by omega), g1, hb⟩
      case round =>
        clear g1 hb
        obtain ⟨k, hk, rfl, hn, g2, hb⟩ := hrel
        have hsz := g2.lt
        obtain ⟨y0, y1, y2⟩ := g2.c3
        by_cases hlt : k < n3
        · obtain ⟨C, hC⟩ : ∃ x, ncE H n3 k = x := ⟨_, rfl⟩
          have HC := Lib.hid hC
          have hnk := fun W h => (unhide HND) W k hlt h
          rw [hC] at hnk
          have HNK := hide hnk
          clear hnk hC
          by_cases e0 : C = 0
          · subst e0
            go_wp2_with fail
            with_reducible refine ((unhide HNK) _ ((L.below hb).more hb.size)).mono ?_
            rintro e w2 ⟨rfl, hb2⟩
            replace hb := hb.trans (hb2.mono hb.size)
            replace g2 := g2.below hb2 g2.lt
            clear hb2
            go_wp2
            go_roundw
            case rel => exact ⟨k + 1, by omega, by go_num, (fun j hj => by
              by_cases hjk : j = k
              · subst hjk; exact HC.out
              · exact hn.out j (by omega)), g2, hb⟩
            case measure => simp [intOf]; omega
          · have HE := Lib.hid (show htCode H = C by rw [HQ2.out, fe_hit hlt hn.out (by rw [HC.out]; exact e0), HC.out])
            go_wp2_with fail
            with_reducible refine ((unhide HNK) _ ((L.below hb).more hb.size)).mono ?_
            rintro e w2 ⟨rfl, hb2⟩
            replace hb := hb.trans (hb2.mono hb.size)
            clear hb2
            go_wp2
            go_ret
            exact ⟨by rw [HE.out] <;> rfl, hb⟩
        · obtain rfl : n3 = k := by omega
          have HE := Lib.hid (show htCode H = 0 by rw [HQ2.out]; exact fe_none hn.out)
          go_wp2
          go_ret
          exact ⟨by rw [HE.out] <;> rfl, hb⟩
end Go.Proofs.YtpfkiohknpeifaaGreat
