/- The walk of the statement DeviceLeads. -/
import Derived.Test.YtnoihjjenceeaaaDoorDLeads0
namespace Go.Proofs.YtnoihjjenceeaaaDoor
open Go.RowKit

theorem fold_take (a : Int) (l : List Int) (k : Nat) (c : Int) (h : l[k]? = some c) : (l.take (k + 1)).foldl stp a = stp ((l.take k).foldl stp a) c := by
  have hk := List.getElem?_eq_some_iff.1 h
  rw [List.take_succ_eq_append_getElem hk.1, hk.2]
  simp
theorem flat_one (l : List Int) : (l.map fun z : Int => [Value.int .i64 z]).flatten = l.map (Value.int .i64) := by
  induction l with
  | nil => rfl
  | cons x l ih => simp [ih]
theorem Cw.alloc {w : World} (h : Cw w) (o : Obj) : Cw (w.alloc o) := h.below ((Below.refl w.heap.size w).alloc (Nat.le_refl _) o) h.lt

set_option maxRecDepth 100000 in
set_option maxHeartbeats 6400000 in
theorem deviceLeads_walk (A : Option Addr) (n c : Nat) (us : List Nat) (x y : Nat) (hx : x < 256) (hy : y < 256) (hu : ∀ u ∈ us, u < 256) (w : World) (hE : Sl w w.heap.size 1 A (us.map fun u : Nat => [Value.int .u8 (u : Int)])) (hn : n = us.length) (hc : Cw w) :
    Calls Tryd.prog 6 #[.int .u8 x, .int .u8 y, .slice A n c] w fun e w' => e = .returned (.bool true) ∧ Below w.heap.size w w' := by
  have HN := Lib.hid hn
  clear hn
  by_cases hbig : 20 < n
  · go_enter Tryd.func6, Tryd.ntmps6
    go_wp2_with fail
    refine (awakeD_walk _ hc).mono ?_
    rintro e w1 ⟨rfl, hb1⟩
    go_wp2_with fail
    refine (awakeD_walk _ (hc.below hb1 hc.lt)).mono ?_
    rintro e w2 ⟨rfl, hb2⟩
    have hb3 := hb1.trans (hb2.mono hb1.size)
    go_wp2
    go_ret
    exact ⟨rfl, hb3⟩
  · obtain ⟨a, ha⟩ : ∃ a : Nat, (x : Int) % 8 = (a : Int) := ⟨x % 8, by omega⟩
    obtain ⟨b, hbb⟩ : ∃ b : Nat, (y : Int) % 8 = (b : Int) := ⟨y % 8, by omega⟩
    have ha8 : a < 8 := by omega
    have hb8 : b < 8 := by omega
    have hwd := fun W (h : Cw W) => words_walk a b W ha8 hb8 h
    have hl := ways_lead b hb8 a ha8
    have hfb := fin_to b hb8
    have hdb : gI (fin (b : Int)) (a : Int) ≤ 8 := (gI_bd (by decide) (tbl_len b hb8 rounds (Nat.le_refl _)).2 _).2
    have hfs := fin_step b hb8
    obtain ⟨f, hf⟩ : ∃ f, fin (b : Int) = f := ⟨_, rfl⟩
    obtain ⟨l, hll⟩ : ∃ l, ways a b = l := ⟨_, rfl⟩
    simp only [hf, hll] at hwd hl hfb hfs hdb
    obtain ⟨d, hd⟩ : ∃ d, gI f a = d := ⟨_, rfl⟩
    simp only [hd] at hwd hl hdb
    have HWD := hide hwd
    have HL := hide hl
    have HFB := Lib.hid hfb
    have HFS := Lib.hid hfs
    have HD := Lib.hid hd
    have HU := Lib.hid hu
    clear hwd hl hfb hfs hf hll hd hu
    go_enter Tryd.func6, Tryd.ntmps6
    go_wp2_with fail
    refine (awakeD_walk _ hc).mono ?_
    rintro e w1 ⟨rfl, hb1⟩
    have hc1 := hc.below hb1 hc.lt
    go_wp2_with fail
    refine ((unhide HWD) _ hc1).mono ?_
    rintro e w2 ⟨hb2, hres⟩
    have hb3 := hb1.trans (hb2.mono hb1.size)
    have hb4 := hb3.alloc hb3.size (.cells #[.int .i64 0, .int .i64 2, .int .i64 6, .int .i64 7, .int .i64 15, .int .i64 128] 3)
    have gW := Blk.new w2 3 #[.int .i64 0, .int .i64 2, .int .i64 6, .int .i64 7, .int .i64 15, .int .i64 128]
    rcases hres with ⟨hneg, rfl⟩ | ⟨hpos, v, rfl, hown⟩
    · go_wp2_with fail
      refine (is_walk 23 _).mono ?_
      rintro e w3 ⟨rfl, rfl⟩
      go_wp2
      go_loopw [12, 13, 72] (fun x k i wr => ∃ (j s : Nat), j ≤ n ∧ i = .int .i64 j ∧ x = .int .i64 s ∧ k = .bool true ∧ s < 8 ∧ Hid (0 ≤ gI f s → 0 ≤ d ∧ d ≤ gI f s + j) ∧ Blk wr w2.heap.size 3 #[.int .i64 0, .int .i64 2, .int .i64 6, .int .i64 7, .int .i64 15, .int .i64 128] ∧ Below w.heap.size w wr) (fun _ _ i _ => n - (intOf i).toNat)
      case atStart => exact ⟨0, a, Nat.zero_le _, rfl, rfl, rfl, ha8, (fun h => by rw [HD.out] at h ⊢; omega), gW, hb4⟩
      case round =>
      clear gW hb4
      obtain ⟨j, s, hj, rfl, rfl, rfl, hs8, hpot, gW, hb⟩ := hrel
      obtain ⟨wo, rfl⟩ : ∃ wo : World, wo = wr := ⟨_, rfl⟩
      have lW := gW.lt
      by_cases hlt : j < n
      · obtain ⟨u, hu⟩ : ∃ u, us[j]? = some u := ⟨_, List.getElem?_eq_getElem (by have := HN.out; omega)⟩
        obtain ⟨ad, p, rfl, hpa, hpb, e0⟩ := (hE.below hb).one (k := j) (x0 := .int .u8 (u : Int)) (by rw [List.getElem?_map, hu]; rfl)
        have hsz := hb.size
        have hl1 : p.block < wo.heap.size := by omega
        by_cases hsb : s = b
        · subst hsb
          exfalso
          have h1 := hpot.out (by rw [HFB.out]; decide)
          omega
        · have hne : ((s : Int) == (b : Int)) = false := by simp only [beq_eq_false_iff_ne, ne_eq]; omega
          have hu8 := HU.out u (List.mem_of_getElem? hu)
          obtain ⟨t, ht⟩ : ∃ t : Nat, (u : Int) % 6 = (t : Int) := ⟨u % 6, by omega⟩
          have ht6 : t < 6 := by omega
          have hcw : wo.cell? ⟨w2.heap.size, t, none⟩ = some (.int .i64 (cw.getD t 0)) := by
            rw [gW.cell]
            match t, ht6 with
            | 0, _ => rfl
            | 1, _ => rfl
            | 2, _ => rfl
            | 3, _ => rfl
            | 4, _ => rfl
            | 5, _ => rfl
          obtain ⟨c0, hc0⟩ : ∃ c0, cw.getD t 0 = c0 := ⟨_, rfl⟩
          rw [hc0] at hcw
          obtain ⟨s', hs'⟩ : ∃ s' : Nat, stp s c0 = (s' : Int) := ⟨(stp s c0).toNat, by have := stp_in s c0; omega⟩
          have hs8' : s' < 8 := by have := stp_in s c0; omega
          have hpl := fun W => play_one s c0 (by omega) W
          simp only [hs'] at hpl
          have HPL := hide hpl
          have hpot2 : Hid (0 ≤ gI f s' → 0 ≤ d ∧ d ≤ gI f s' + ((j + 1 : Nat) : Int)) := fun h => by
            have h1 := HFS.out s hs8 t ht6
            rw [hc0, hs'] at h1
            have h2 := h1 h
            have h3 := hpot.out h2.1
            omega
          clear hu hpl hc0 hs' hpot
          have gW2 := gW.alloc (.cells #[.int .i64 c0, .bool true, .bool false, .bool true, .bool true] 23)
          have hb5 := hb.alloc hsz (.cells #[.int .i64 c0, .bool true, .bool false, .bool true, .bool true] 23)
          go_wp2_with fail
          refine ((unhide HPL) _).mono ?_
          rintro e w5 ⟨rfl, hb6⟩
          have gW3 := gW2.below hb6 gW2.lt
          have hb7 := hb5.trans (hb6.mono hb5.size)
          go_wp2
          go_roundw
          case rel => exact ⟨j + 1, s', by omega, by go_num, rfl, rfl, hs8', hpot2, gW3, hb7⟩
          case measure => simp [intOf]; omega
      · obtain rfl : j = n := by omega
        by_cases hsb : s = b
        · subst hsb
          exfalso
          have h1 := hpot.out (by rw [HFB.out]; decide)
          omega
        · have hne : ((s : Int) != (b : Int)) = true := by simp only [bne_iff_ne, ne_eq]; omega
          go_wp2
          go_ret
          exact ⟨rfl, hb⟩
    · obtain ⟨hld, hln⟩ := (unhide HL) hpos
      obtain ⟨L, hLL⟩ : ∃ L, l.length = L := ⟨_, rfl⟩
      obtain ⟨AL, cL, rfl, hsl, _⟩ := Sl.of_own (rs := l.map fun z : Int => [Value.int .i64 z]) (size := 1) (by rw [flat_one]; exact hown) (by simp) (by simp)
      rw [hLL] at hln ⊢
      have hsl2 : Sl (w2.alloc (.cells #[.int .i64 0, .int .i64 2, .int .i64 6, .int .i64 7, .int .i64 15, .int .i64 128] 3)) w2.heap.size 1 AL (l.map fun z : Int => [Value.int .i64 z]) := hsl.alloc (Nat.le_refl _) _
      have HLD := Lib.hid hld
      have HLN : Hid ((L : Int) = d) := by show _ = _; rw [hln]; omega
      have HLL := Lib.hid hLL
      have hL8 : L ≤ 8 := by omega
      clear hld hln hown hsl hLL
      go_wp2
      go_loopw [12, 13, 44] (fun x k i wr => ∃ (j s : Nat), j ≤ L ∧ i = .int .i64 j ∧ x = .int .i64 s ∧ k = .bool true ∧ s < 8 ∧ Hid ((l.take j).foldl stp a = s) ∧ Sl wr w2.heap.size 1 AL (l.map fun z : Int => [Value.int .i64 z]) ∧ Blk wr w2.heap.size 3 #[.int .i64 0, .int .i64 2, .int .i64 6, .int .i64 7, .int .i64 15, .int .i64 128] ∧ Below w.heap.size w wr) (fun _ _ i _ => L - (intOf i).toNat)
      case atStart => exact ⟨0, a, Nat.zero_le _, rfl, rfl, rfl, ha8, rfl, hsl2, gW, hb4⟩
      case round =>
      clear gW hb4 hsl2
      obtain ⟨j, s, hj, rfl, rfl, rfl, hs8, hfo, hsl, gW, hb⟩ := hrel
      have lW := gW.lt
      by_cases hlt : j < L
      · obtain ⟨c0, hc0⟩ : ∃ c0, l[j]? = some c0 := ⟨_, List.getElem?_eq_getElem (by have := HLL.out; omega)⟩
        obtain ⟨ad, p, rfl, hpa, hpb, e0⟩ := hsl.one (k := j) (x0 := .int .i64 c0) (by rw [List.getElem?_map, hc0]; rfl)
        have hl1 : p.block < wr.heap.size := by omega
        obtain ⟨s', hs'⟩ : ∃ s' : Nat, stp s c0 = (s' : Int) := ⟨(stp s c0).toNat, by have := stp_in s c0; omega⟩
        have hs8' : s' < 8 := by have := stp_in s c0; omega
        have hpl := fun W => play_one s c0 (by omega) W
        simp only [hs'] at hpl
        have HPL := hide hpl
        have hfo2 : Hid ((l.take (j + 1)).foldl stp a = s') := by
          show _ = _
          rw [fold_take a l j c0 hc0, hfo.out, hs']
        clear hpl hs' hc0 hfo
        have gW2 := gW.alloc (.cells #[.int .i64 c0, .bool true, .bool false, .bool true, .bool true] 23)
        have hsl2 := hsl.alloc (Nat.le_of_lt lW) (.cells #[.int .i64 c0, .bool true, .bool false, .bool true, .bool true] 23)
        have hb5 := hb.alloc hb.size (.cells #[.int .i64 c0, .bool true, .bool false, .bool true, .bool true] 23)
        go_wp2_with fail
        refine ((unhide HPL) _).mono ?_
        rintro e w5 ⟨rfl, hb6⟩
        have gW3 := gW2.below hb6 gW2.lt
        have hsl3 := hsl2.below (hb6.mono (Nat.le_of_lt gW2.lt))
        have hb7 := hb5.trans (hb6.mono hb5.size)
        go_wp2
        go_roundw
        case rel => exact ⟨j + 1, s', by omega, by go_num, rfl, rfl, hs8', hfo2, hsl3, gW3, hb7⟩
        case measure => simp [intOf]; omega
      · have hjL : L = j := by omega
        subst hjL
        have hbs : b = s := by
          have h1 := hfo.out
          rw [← HLL.out, List.take_length, HLD.out] at h1
          omega
        subst hbs
        clear hfo
        go_wp2
        go_loopw [12, 13, 72] (fun x k i wr => ∃ (j s : Nat), j ≤ n ∧ i = .int .i64 j ∧ x = .int .i64 s ∧ k = .bool true ∧ s < 8 ∧ Hid (0 ≤ gI f s → 0 ≤ d ∧ d ≤ gI f s + j) ∧ Blk wr w2.heap.size 3 #[.int .i64 0, .int .i64 2, .int .i64 6, .int .i64 7, .int .i64 15, .int .i64 128] ∧ Below w.heap.size w wr) (fun _ _ i _ => n - (intOf i).toNat)
        case atStart => exact ⟨0, a, Nat.zero_le _, rfl, rfl, rfl, ha8, (fun h => by rw [HD.out] at h ⊢; omega), gW, hb⟩
        case round =>
        clear gW hb
        obtain ⟨j, s, hj, rfl, rfl, rfl, hs8, hpot, gW, hb⟩ := hrel
        obtain ⟨wo, rfl⟩ : ∃ wo : World, wo = wr := ⟨_, rfl⟩
        have lW := gW.lt
        by_cases hlt : j < n
        · obtain ⟨u, hu⟩ : ∃ u, us[j]? = some u := ⟨_, List.getElem?_eq_getElem (by have := HN.out; omega)⟩
          obtain ⟨ad, p, rfl, hpa, hpb, e0⟩ := (hE.below hb).one (k := j) (x0 := .int .u8 (u : Int)) (by rw [List.getElem?_map, hu]; rfl)
          have hsz := hb.size
          have hl1 : p.block < wo.heap.size := by omega
          by_cases hsb : s = b
          · subst hsb
            have h1 := hpot.out (by rw [HFB.out]; decide)
            rw [HFB.out] at h1
            have hle : (L : Int) ≤ (j : Int) := by have := HLN.out; omega
            go_wp2
            go_ret
            exact ⟨by simp, hb⟩
          · have hne : ((s : Int) == (b : Int)) = false := by simp only [beq_eq_false_iff_ne, ne_eq]; omega
            have hu8 := HU.out u (List.mem_of_getElem? hu)
            obtain ⟨t, ht⟩ : ∃ t : Nat, (u : Int) % 6 = (t : Int) := ⟨u % 6, by omega⟩
            have ht6 : t < 6 := by omega
            have hcw : wo.cell? ⟨w2.heap.size, t, none⟩ = some (.int .i64 (cw.getD t 0)) := by
              rw [gW.cell]
              match t, ht6 with
              | 0, _ => rfl
              | 1, _ => rfl
              | 2, _ => rfl
              | 3, _ => rfl
              | 4, _ => rfl
              | 5, _ => rfl
            obtain ⟨c0, hc0⟩ : ∃ c0, cw.getD t 0 = c0 := ⟨_, rfl⟩
            rw [hc0] at hcw
            obtain ⟨s', hs'⟩ : ∃ s' : Nat, stp s c0 = (s' : Int) := ⟨(stp s c0).toNat, by have := stp_in s c0; omega⟩
            have hs8' : s' < 8 := by have := stp_in s c0; omega
            have hpl := fun W => play_one s c0 (by omega) W
            simp only [hs'] at hpl
            have HPL := hide hpl
            have hpot2 : Hid (0 ≤ gI f s' → 0 ≤ d ∧ d ≤ gI f s' + ((j + 1 : Nat) : Int)) := fun h => by
              have h1 := HFS.out s hs8 t ht6
              rw [hc0, hs'] at h1
              have h2 := h1 h
              have h3 := hpot.out h2.1
              omega
            clear hu hpl hc0 hs' hpot
            have gW2 := gW.alloc (.cells #[.int .i64 c0, .bool true, .bool false, .bool true, .bool true] 23)
            have hb5 := hb.alloc hsz (.cells #[.int .i64 c0, .bool true, .bool false, .bool true, .bool true] 23)
            go_wp2_with fail
            refine ((unhide HPL) _).mono ?_
            rintro e w5 ⟨rfl, hb6⟩
            have gW3 := gW2.below hb6 gW2.lt
            have hb7 := hb5.trans (hb6.mono hb5.size)
            go_wp2
            go_roundw
            case rel => exact ⟨j + 1, s', by omega, by go_num, rfl, rfl, hs8', hpot2, gW3, hb7⟩
            case measure => simp [intOf]; omega
        · obtain rfl : j = n := by omega
          by_cases hsb : s = b
          · subst hsb
            have h1 := hpot.out (by rw [HFB.out]; decide)
            rw [HFB.out] at h1
            have hle : (L : Int) ≤ (j : Int) := by have := HLN.out; omega
            go_wp2
            go_ret
            exact ⟨by simp, hb⟩
          · have hne : ((s : Int) != (b : Int)) = true := by simp only [bne_iff_ne, ne_eq]; omega
            go_wp2
            go_ret
            exact ⟨rfl, hb⟩

end Go.Proofs.YtnoihjjenceeaaaDoor
