/- The walk of device.Words. -/
import Derived.Test.YtnoihjjenceeaaaDoorDWPlain
import Derived.WalkMore
namespace Go.Proofs.YtnoihjjenceeaaaDoor
open Go.RowKit

/-- The words that the package keeps. -/
structure Cw (w : World) : Prop where
  c0 : w.cell? ⟨0, 0, none⟩ = some (.int .i64 0)
  c1 : w.cell? ⟨0, 1, none⟩ = some (.int .i64 2)
  c2 : w.cell? ⟨0, 2, none⟩ = some (.int .i64 6)
  c3 : w.cell? ⟨0, 3, none⟩ = some (.int .i64 7)
  c4 : w.cell? ⟨0, 4, none⟩ = some (.int .i64 15)
  c5 : w.cell? ⟨0, 5, none⟩ = some (.int .i64 128)
theorem Cw.lt {w : World} (h : Cw w) : 0 < w.heap.size := World.block_lt_of_cell? w _ h.c0
theorem Cw.below {w w' : World} {B : Nat} (h : Cw w) (hb : Below B w w') (hB : 0 < B) : Cw w' :=
  ⟨(hb.cell hB).trans h.c0, (hb.cell hB).trans h.c1, (hb.cell hB).trans h.c2, (hb.cell hB).trans h.c3, (hb.cell hB).trans h.c4, (hb.cell hB).trans h.c5⟩
def cellsI (f : List Int) : Array Value := (f.map (Value.int .i64)).toArray
theorem cellsI_get {f : List Int} {i : Int} (hf : f.length = 8) (h0 : 0 ≤ i) (h7 : i ≤ 7) : (cellsI f)[i.toNat]? = some (.int .i64 (gI f i)) := by
  have : i.toNat < f.length := by omega
  simp [cellsI, gI, List.getElem?_eq_getElem this, List.getD_eq_getElem?_getD]
theorem cellsI_set (f : List Int) (i : Nat) (n : Int) : (cellsI f).setIfInBounds i (.int .i64 n) = cellsI (f.set i n) := by
  simp [cellsI, List.map_set]
theorem idx6_0 (w : World) : (Instr.index 55 (.agg #[.int .i64 0, .int .i64 2, .int .i64 6, .int .i64 7, .int .i64 15, .int .i64 128]) (.int .i64 0)).run Tryd.prog w = .ok (.int .i64 0) w := by kernel_rfl
theorem idx6_1 (w : World) : (Instr.index 55 (.agg #[.int .i64 0, .int .i64 2, .int .i64 6, .int .i64 7, .int .i64 15, .int .i64 128]) (.int .i64 1)).run Tryd.prog w = .ok (.int .i64 2) w := by kernel_rfl
theorem idx6_2 (w : World) : (Instr.index 55 (.agg #[.int .i64 0, .int .i64 2, .int .i64 6, .int .i64 7, .int .i64 15, .int .i64 128]) (.int .i64 2)).run Tryd.prog w = .ok (.int .i64 6) w := by kernel_rfl
theorem idx6_3 (w : World) : (Instr.index 55 (.agg #[.int .i64 0, .int .i64 2, .int .i64 6, .int .i64 7, .int .i64 15, .int .i64 128]) (.int .i64 3)).run Tryd.prog w = .ok (.int .i64 7) w := by kernel_rfl
theorem idx6_4 (w : World) : (Instr.index 55 (.agg #[.int .i64 0, .int .i64 2, .int .i64 6, .int .i64 7, .int .i64 15, .int .i64 128]) (.int .i64 4)).run Tryd.prog w = .ok (.int .i64 15) w := by kernel_rfl
theorem idx6_5 (w : World) : (Instr.index 55 (.agg #[.int .i64 0, .int .i64 2, .int .i64 6, .int .i64 7, .int .i64 15, .int .i64 128]) (.int .i64 5)).run Tryd.prog w = .ok (.int .i64 128) w := by kernel_rfl
theorem idx6 (k : Nat) (hk : k < 6) (w : World) : (Instr.index 55 (.agg #[.int .i64 0, .int .i64 2, .int .i64 6, .int .i64 7, .int .i64 15, .int .i64 128]) (.int .i64 k)).run Tryd.prog w = .ok (.int .i64 (cw.getD k 0)) w := by
  match k, hk with
  | 0, _ => exact idx6_0 w
  | 1, _ => exact idx6_1 w
  | 2, _ => exact idx6_2 w
  | 3, _ => exact idx6_3 w
  | 4, _ => exact idx6_4 w
  | 5, _ => exact idx6_5 w
theorem step_walk (s c : Int) (w : World) (h : 0 ≤ s ∧ s ≤ 7) : Calls Tryd.prog 26 #[.int .i64 s, .int .i64 c] w fun e w' => e = .returned (.int .i64 (stp s c)) ∧ Below w.heap.size w w' := by
  have hn := fun W => next_walk s c true false true true W h
  rw [show nx s (bt c 1) (bt c 2) (bt c 4) (bt c 8) (bt c 128) false true true true = stp s c from rfl] at hn
  have HN := hide hn
  clear hn h
  go_enter Tryd.func26, Tryd.ntmps26
  go_wp2_with fail
  refine ((unhide HN) _).mono ?_
  rintro e w1 ⟨rfl, hb⟩
  go_wp2
  go_ret
  exact ⟨rfl, hb⟩

theorem Cw.drewN {w : World} (h : Cw w) (n : Nat) : Cw (w.drewN n) := ⟨h.c0, h.c1, h.c2, h.c3, h.c4, h.c5⟩
theorem own_below {w w' : World} {base B : Nat} {e : TypeId} {size : Nat} {v : Value} {n : Nat} {xs : List Value} (h : w.ownsRow base e size v n xs) (hb : Below B w w') (hB : w.heap.size ≤ B) : w'.ownsRow base e size v n xs := by
  refine ⟨h.1, ?_⟩
  rcases h.2 with h2 | ⟨g, cap, cur, hv, hg, hh, r⟩
  · exact .inl h2
  · exact .inr ⟨g, cap, cur, hv, hg, (hb.block g (Nat.lt_of_lt_of_le (Blk.lt hh) hB)).trans hh, r⟩
theorem _root_.Go.World.ownsRow.drewN' {w : World} {base : Nat} {e : TypeId} {size : Nat} {v : Value} {n : Nat} {xs : List Value} (h : w.ownsRow base e size v n xs) (k : Nat) : (w.drewN k).ownsRow base e size v n xs := h
theorem Cw.grown' {w w' : World} {o : Obj} {row : Option Nat} {B : Nat} (h : Cw w) (hg : (w.alloc o).grownBy w' row) (hne : ∀ g, g < B + 1 ∨ w.heap.size ≤ g → some g ≠ row) (hB : 0 < B) : Cw w' := by
  have hk : ∀ i, w'.cell? ⟨0, i, none⟩ = w.cell? ⟨0, i, none⟩ := fun i => by
    refine World.cell?_of_block ?_
    exact (hg.block 0 (by simp) (hne 0 (by omega))).trans (Below.heap_alloc w o 0 h.lt)
  exact ⟨(hk 0).trans h.c0, (hk 1).trans h.c1, (hk 2).trans h.c2, (hk 3).trans h.c3, (hk 4).trans h.c4, (hk 5).trans h.c5⟩
theorem intInfo : (Tryd.prog.info? 3).map (fun i => (i.zero, i.size, i.bytes)) = some (some (.int .i64 0), 1, 8) := by kernel_rfl
theorem info_of {P : Program} {t : TypeId} {z : Value} {s b : Nat} (h : (P.info? t).map (fun i => (i.zero, i.size, i.bytes)) = some (some z, s, b)) : ∃ i, P.info? t = some i ∧ i.zero = some z ∧ i.size = s ∧ i.bytes = b := by
  cases hi : P.info? t with
  | none => rw [hi] at h; cases h
  | some i =>
    rw [hi] at h
    simp only [Option.map_some, Option.some.injEq, Prod.mk.injEq] at h
    exact ⟨i, rfl, h.1, h.2.1, h.2.2⟩
theorem make8 (w : World) : (Instr.makeSlice 34 (.int .i64 8) (.int .i64 8)).run Tryd.prog w = .ok (.slice (some ⟨w.heap.size, 0, none⟩) 8 8) (w.alloc (.cells (cellsI (mk8 0)) 3)) := by
  obtain ⟨i, hi, hz, hs, hb⟩ := info_of intInfo
  have := run_makeSlice (P := Tryd.prog) w 34 3 i (.int .i64 0) Tryd.underlying34 hi hz .i64 .i64 8 8 (by decide) (by decide) (by rw [hs]; decide) (by rw [hb]; decide) (by decide)
  have e : madeCells (Value.int .i64 0).cells (Int.toNat 8 * 1) = cellsI (mk8 0) := by kernel_rfl
  rw [this, hs, e]
  rfl
/-- The eight numbers that lie at a block. -/
def readI (w : World) (F : Nat) : List Int := (List.range 8).map fun i => match w.cell? ⟨F, i, none⟩ with
  | some (.int _ n) => n
  | _ => 0
theorem list8 {α : Type} {l : List α} (h : l.length = 8) : ∃ a b c d e f g i, l = [a, b, c, d, e, f, g, i] := by
  match l, h with
  | [a, b, c, d, e, f, g, i], _ => exact ⟨a, b, c, d, e, f, g, i, rfl⟩
theorem readI_eq {w : World} {F : Nat} {t : TypeId} {f : List Int} (h : Blk w F t (cellsI f)) (hf : f.length = 8) : readI w F = f := by
  obtain ⟨a, b, c, d, e, g, i, j, rfl⟩ := list8 hf
  obtain ⟨k0, k1, k2, k3, k4, k5, k6, k7⟩ := (show Blk w F t #[.int .i64 a, .int .i64 b, .int .i64 c, .int .i64 d, .int .i64 e, .int .i64 g, .int .i64 i, .int .i64 j] from h).c8
  have hr : List.range 8 = [0, 1, 2, 3, 4, 5, 6, 7] := by decide
  unfold readI
  rw [hr]
  simp only [List.map_cons, List.map_nil, k0, k1, k2, k3, k4, k5, k6, k7]
def isT : Value → Bool
  | .bool b => b
  | _ => false

set_option maxRecDepth 100000 in
set_option maxHeartbeats 6400000 in
theorem words_walk (an tn : Nat) (w : World) (ha : an < 8) (hb : tn < 8) (hc : Cw w) :
    Calls Tryd.prog 15 #[.int .i64 an, .int .i64 tn] w fun e w' => Below w.heap.size w w' ∧ ((gI (fin tn) an < 0 ∧ e = .returned (.tuple #[.slice none 0 0, .iface 31 (.int .i64 23)])) ∨
      (0 ≤ gI (fin tn) an ∧ ∃ v, e = .returned (.tuple #[v, .nilIface]) ∧ w'.ownsRow w.heap.size 3 1 v (ways an tn).length ((ways an tn).map (Value.int .i64)))) := by
  have k1 := fun W => known_walk an W
  have k2 := fun W => known_walk tn W
  rw [stOk_iff.2 (by omega)] at k1
  rw [stOk_iff.2 (by omega)] at k2
  have K1 := hide k1
  have K2 := hide k2
  have hmk := make8
  have hlw := hc.lt
  obtain ⟨i0, hi, hz0, hz1, hz2⟩ := info_of intInfo
  have HT2 := Lib.hid (tbl_len tn hb)
  clear k1 k2
  go_enter Tryd.func15, Tryd.ntmps15
  go_wp2_with fail
  go_step3
  go_wp2_with fail
  refine ((unhide K1) _).mono ?_
  rintro e w1 ⟨rfl, rfl⟩
  go_wp2_with fail
  refine ((unhide K2) _).mono ?_
  rintro e w2 ⟨rfl, rfl⟩
  have g0 := Blk.new w 3 (cellsI (mk8 0))
  have hb0 := (Below.refl w.heap.size w).alloc (Nat.le_refl _) (.cells (cellsI (mk8 0)) 3)
  have hc0 := hc.below hb0 hlw
  go_wp2
  go_loopw [30] (fun i wr => ∃ k : Nat, k ≤ 8 ∧ i = .int .i64 k ∧ Blk wr w.heap.size 3 (cellsI (mk8 k)) ∧ Cw wr ∧ Below w.heap.size w wr) (fun i _ => 8 - (intOf i).toNat)
  case atStart => exact ⟨0, by omega, rfl, g0, hc0, hb0⟩
  case round =>
  clear g0 hb0 hc0
  obtain ⟨k, hk, rfl, g0, hcw, hb0⟩ := hrel
  by_cases hk8 : k < 8
  · obtain ⟨hse, hln⟩ := mk8_set k hk8
    have hx : wr.cell? ⟨w.heap.size, k, none⟩ = some (.int .i64 (gI (mk8 k) k)) := by
      rw [g0.cell]
      exact cellsI_get (i := (k : Int)) hln (by omega) (by omega)
    have hfz := g0.frozen k
    have HSE := Lib.hid hse
    clear hse hln
    go_wp2
    go_roundw
    case rel =>
      refine ⟨k + 1, by omega, by go_num, ?_, hcw.below ((Below.refl w.heap.size wr).setCell (by simp <;> omega) _) hlw, hb0.setCell (by simp <;> omega) _⟩
      rw [← HSE.out, ← cellsI_set]
      exact g0.set_ _ _
    case measure => simp [intOf]; omega
  · obtain rfl : k = 8 := by omega
    have hx : wr.cell? ⟨w.heap.size, tn, none⟩ = some (.int .i64 (gI (mk8 8) tn)) := by
      rw [g0.cell]
      exact cellsI_get (i := (tn : Int)) (by decide) (by omega) (by omega)
    have hfz := g0.frozen tn
    have g1 := g0.set_ tn (.int .i64 0)
    rw [cellsI_set, show mk8 8 = List.replicate 8 (-1) from rfl, tbl_ini tn hb] at g1
    have hb1 := hb0.setCell (p := ⟨w.heap.size, tn, none⟩) (by simp <;> omega) (.int .i64 0)
    have hc1 := hcw.below ((Below.refl w.heap.size wr).setCell (p := ⟨w.heap.size, tn, none⟩) (by simp <;> omega) (.int .i64 0)) hlw
    go_wp2
    go_loopw [9] (fun x wr => ∃ (r : Nat) (b : Bool), r ≤ rounds ∧ x = .bool b ∧ Hid (b = false → tbl tn r = tbl tn rounds) ∧ Blk wr w.heap.size 3 (cellsI (tbl tn r)) ∧ Cw wr ∧ Below w.heap.size w wr) (fun x wr => if isT x = true then 1 + phi (readI wr w.heap.size) else 0)
    case atStart => exact ⟨0, true, by decide, rfl, (fun h => by cases h), g1, hc1, hb1⟩
    case round =>
    clear g0 g1 hcw hb0 hb1 hc1 hx hfz
    obtain ⟨r, b, hr, rfl, hfin, g1, hcw, hb0⟩ := hrel
    cases b
    case true =>
      have HPH := Lib.hid (readI_eq g1 (HT2.out r hr).1)
      obtain ⟨wo, rfl⟩ : ∃ wo : World, wo = wr := ⟨_, rfl⟩
      have hP8 := (HT2.out r hr).1
      have hPB := (HT2.out r hr).2
      obtain ⟨T, hT⟩ : ∃ T, tbl tn r = T := ⟨_, rfl⟩
      rw [hT] at g1 hP8 hPB
      have HTT := Lib.hid hT
      have HP8 := Lib.hid hP8
      have HPB := Lib.hid hPB
      clear hP8 hPB hT hfin
      go_wp2
      go_loopw [9, 43] (fun x i wr => ∃ (k : Nat) (p : List Int × Bool), k ≤ 8 ∧ i = .int .i64 k ∧ x = .bool p.2 ∧ Hid (p = relR (T, false) k) ∧ Blk wr w.heap.size 3 (cellsI p.1) ∧ Cw wr ∧ Below w.heap.size w wr) (fun _ i _ => 8 - (intOf i).toNat)
      case atStart => exact ⟨0, (T, false), by omega, rfl, rfl, rfl, g1, hcw, hb0⟩
      case round =>
      clear g1 hcw hb0
      obtain ⟨k, p, hk, rfl, rfl, hp, g1, hcw, hb0⟩ := hrel
      by_cases hk8 : k < 8
      · obtain ⟨p1, p2⟩ := p
        have hcw0 := hcw
        obtain ⟨q0, q1, q2, q3, q4, q5⟩ := hcw
        have hl0 := g1.lt
        go_wp2
        go_loopw [9, 47] (fun x i wr => ∃ (j : Nat) (p : List Int × Bool), j ≤ 6 ∧ i = .int .i64 j ∧ x = .bool p.2 ∧ Hid (p = relS k (relR (T, false) k) j) ∧ Blk wr w.heap.size 3 (cellsI p.1) ∧ Cw wr ∧ Below w.heap.size w wr) (fun _ i _ => 6 - (intOf i).toNat)
        case atStart => exact ⟨0, (p1, p2), by omega, rfl, rfl, hp, g1, hcw0, hb0⟩
        case round =>
        clear g1 hcw0 hb0 q0 q1 q2 q3 q4 q5 hp hl0
        obtain ⟨j, p, hj, rfl, rfl, hp, g1, hcw, hb0⟩ := hrel
        by_cases hj6 : j < 6
        · have ix := idx6 j hj6
          obtain ⟨c, hcj⟩ : ∃ c, cw.getD j 0 = c := ⟨_, rfl⟩
          rw [hcj] at ix
          have h8 : p.1.length = 8 := by rw [hp.out]; exact relS_len _ _ (relR_len _ HP8.out k) j
          have hbd : ∀ x ∈ p.1, -1 ≤ x ∧ x ≤ 8 + 6 * (k : Int) + j := by rw [hp.out]; exact relS_bd (by omega) (relR_bd (p := (T, false)) (by omega) HPB.out k) j
          obtain ⟨t, ht⟩ : ∃ t : Nat, stp k c = (t : Int) := ⟨(stp k c).toNat, by have := stp_in k c; omega⟩
          have ht8 : t < 8 := by have := stp_in k c; omega
          have hst := fun W => step_walk k c W (by omega)
          rw [ht] at hst
          obtain ⟨n, hn⟩ : ∃ n, gI p.1 t = n := ⟨_, rfl⟩
          obtain ⟨m, hm⟩ : ∃ m, gI p.1 k = m := ⟨_, rfl⟩
          have hnb := gI_bd (by omega) hbd t
          have hmb := gI_bd (by omega) hbd k
          rw [hn] at hnb
          rw [hm] at hmb
          obtain ⟨hn1, hn2⟩ := hnb
          obtain ⟨hm1, hm2⟩ := hmb
          have hrx : relax k p c = if 0 ≤ n ∧ (m < 0 ∨ n + 1 < m) then (p.1.set k (n + 1), true) else p := by
            unfold relax
            rw [ht, hn, hm]
            rfl
          have hnx : relS k (relR (T, false) k) (j + 1) = if 0 ≤ n ∧ (m < 0 ∨ n + 1 < m) then (p.1.set k (n + 1), true) else p := by
            rw [← hrx, hp.out, ← hcj]
            rfl
          have hx : p.1.length = 8 → (cellsI p.1)[t]? = some (.int .i64 n) := fun h => by
            have := cellsI_get (i := (t : Int)) h (by omega) (by omega)
            rw [hn] at this
            exact this
          have hy : p.1.length = 8 → (cellsI p.1)[k]? = some (.int .i64 m) := fun h => by
            have := cellsI_get (i := (k : Int)) h (by omega) (by omega)
            rw [hm] at this
            exact this
          have hx := hx h8
          have hy := hy h8
          have HST := hide hst
          have HNX := Lib.hid hnx
          obtain ⟨p1, p2⟩ := p
          have hl0 := g1.lt
          clear hst hnx hrx hbd h8 hcj ht hn hm hp
          go_wp2_with fail
          refine ((unhide HST) _).mono ?_
          rintro e w5 ⟨rfl, hb5⟩
          have g2 := g1.below hb5 g1.lt
          have hc2 := hcw.below hb5 hcw.lt
          have hb2 := hb0.trans (hb5.mono hb0.size)
          have hl2 := g2.lt
          have e1 := (g2.cell t).trans hx
          have e2 := (g2.cell k).trans hy
          have hfz := g2.frozen k
          clear g1 hcw hb0 hb5 HST hx hy hl0
          by_cases c1 : 0 ≤ n
          · by_cases c2 : m < 0
            · have hq : Hid (relS k (relR (T, false) k) (j + 1) = (p1.set k (n + 1), true)) := by show _ = _; rw [HNX.out, if_pos ⟨c1, .inl c2⟩]
              clear HNX
              go_wp2
              go_roundw
              case rel =>
                refine ⟨j + 1, (p1.set k (n + 1), true), by omega, by go_num, rfl, hq.out.symm, ?_, hc2.below ((Below.refl w.heap.size w5).setCell (by simp <;> omega) _) hlw, hb2.setCell (by simp <;> omega) _⟩
                rw [← cellsI_set]
                exact g2.set_ _ _
              case measure => simp [intOf]; omega
            · by_cases c3 : n + 1 < m
              · have hq : Hid (relS k (relR (T, false) k) (j + 1) = (p1.set k (n + 1), true)) := by show _ = _; rw [HNX.out, if_pos ⟨c1, .inr c3⟩]
                clear HNX
                go_wp2
                go_roundw
                case rel =>
                  refine ⟨j + 1, (p1.set k (n + 1), true), by omega, by go_num, rfl, hq.out.symm, ?_, hc2.below ((Below.refl w.heap.size w5).setCell (by simp <;> omega) _) hlw, hb2.setCell (by simp <;> omega) _⟩
                  rw [← cellsI_set]
                  exact g2.set_ _ _
                case measure => simp [intOf]; omega
              · have hq : Hid (relS k (relR (T, false) k) (j + 1) = (p1, p2)) := by show _ = _; rw [HNX.out, if_neg (by omega)]
                clear HNX
                go_wp2
                go_roundw
                case rel => exact ⟨j + 1, (p1, p2), by omega, by go_num, rfl, hq.out.symm, g2, hc2, hb2⟩
                case measure => simp [intOf]; omega
          · have hq : Hid (relS k (relR (T, false) k) (j + 1) = (p1, p2)) := by show _ = _; rw [HNX.out, if_neg (by omega)]
            clear HNX
            go_wp2
            go_roundw
            case rel => exact ⟨j + 1, (p1, p2), by omega, by go_num, rfl, hq.out.symm, g2, hc2, hb2⟩
            case measure => simp [intOf]; omega
        · obtain rfl : j = 6 := by omega
          obtain ⟨p1, p2⟩ := p
          go_wp2
          go_roundw
          case rel =>
            cases p2
            · exact ⟨_, _, _, _, .int .i64 ((k + 1 : Nat) : Int), ⟨k + 1, by omega, rfl, p1, .inl ⟨rfl, hp, g1⟩⟩, rfl, rfl, rfl, rfl, by go_num⟩
            · exact ⟨_, _, _, _, .int .i64 ((k + 1 : Nat) : Int), ⟨k + 1, by omega, rfl, p1, .inr ⟨rfl, hp, g1⟩⟩, rfl, rfl, rfl, rfl, by go_num⟩
          case measure => simp [intOf]; omega
      · obtain rfl : k = 8 := by omega
        have hres : (r < rounds ∧ p = (tbl tn (r + 1), chg tn r)) ∨ (r = rounds ∧ p = (tbl tn rounds, false)) := by
          rw [hp.out, ← HTT.out]
          by_cases h : r < rounds
          · exact .inl ⟨h, tbl_step tn hb r h⟩
          · obtain rfl : r = rounds := by omega
            exact .inr ⟨rfl, tbl_last tn hb⟩
        have HRES := Lib.hid hres
        clear hres hp
        go_wp2
        go_roundw
        case rel =>
          rcases HRES.out with ⟨h1, rfl⟩ | ⟨h1, rfl⟩
          · exact ⟨r + 1, chg tn r, by omega, rfl, fun h => tbl_same tn hb r h1 h, g1, hcw, hb0⟩
          · exact ⟨rounds, false, Nat.le_refl _, rfl, fun _ => rfl, g1, hcw, hb0⟩
        case measure =>
          rw [HPH.out]
          rcases HRES.out with ⟨h1, rfl⟩ | ⟨h1, rfl⟩
          · cases hch : chg tn r with
            | false => simp [isT]; omega
            | true =>
              have h2 := tbl_phi tn hb r h1 hch
              rw [readI_eq g1 (HT2.out (r + 1) (by omega)).1]
              simp [isT]
              omega
          · simp [isT]; omega
    case false =>
      have hf := hfin.out rfl
      rw [hf] at g1
      clear hfin hf hr
      have f8 := (HT2.out rounds (Nat.le_refl _)).1
      have f9 := (HT2.out rounds (Nat.le_refl _)).2
      have f10 := fin_to tn hb
      have f11 := fin_way tn hb
      rw [show fin (tn : Int) = tbl tn rounds from rfl] at f10 f11
      obtain ⟨W, hW⟩ : ∃ W, ways an tn = W := ⟨_, rfl⟩
      have hW2 : pth (tbl tn rounds) (gI (tbl tn rounds) an).toNat an = W := hW
      have hW3 : gI (fin (tn : Int)) (an : Int) = gI (tbl tn rounds) an := rfl
      obtain ⟨f, hf⟩ : ∃ f, tbl tn rounds = f := ⟨_, rfl⟩
      rw [hf] at g1 f8 f9 f10 f11 hW2 hW3
      have HWW := Lib.hid hW
      clear hf hW
      have HF8 := Lib.hid f8
      have HF9 := Lib.hid f9
      have HF10 := Lib.hid f10
      have HF11 := Lib.hid f11
      have HW2 := Lib.hid hW2
      have hxa := (g1.cell an).trans (cellsI_get (i := (an : Int)) f8 (by omega) (by omega))
      have hl0 := g1.lt
      obtain ⟨d, hd⟩ : ∃ d, gI f an = d := ⟨_, rfl⟩
      rw [hd] at hxa hW3
      have HW3 := Lib.hid hW3
      have HD := Lib.hid hd
      clear f8 f9 f10 f11 hW2 hd hW3
      by_cases hneg : d < 0
      · go_wp2
        rw [Exit.noGoto_ret]
        go_ret2
        exact ⟨hb0, .inl ⟨by rw [HW3.out]; exact hneg, rfl⟩⟩
      · have hd0 : 0 ≤ d := by omega
        have hlen0 : Hid (([] : List Int) ++ pth f (gI f an).toNat an = W) := by show _ = _; rw [HW2.out]; rfl
        go_wp2
        go_step3
        go_wp2
        go_loopw [0, 14] (fun x v wr => ∃ (s : Nat) (out : List Int), s < 8 ∧ x = .int .i64 s ∧ 0 ≤ gI f s ∧ Hid (out ++ pth f (gI f s).toNat s = W) ∧ out.length + (gI f s).toNat ≤ 8 ∧ wr.ownsRow (w.heap.size + 1) 3 1 v out.length (out.map (Value.int .i64)) ∧ Blk wr w.heap.size 3 (cellsI f) ∧ Cw wr ∧ Below w.heap.size w wr) (fun x _ _ => (gI f (intOf x)).toNat)
        case atStart =>
          refine ⟨an, [], ha, rfl, by rw [HD.out]; exact hd0, hlen0, ?_, World.ownsRow_nil _ _ _ _, g1, hcw, hb0⟩
          have := (gI_bd (by decide) HF9.out (an : Int)).2
          simp
          omega
        case round =>
        clear g1 hcw hb0 hlen0 hd0 hxa hl0 HW2
        obtain ⟨s, out, hs, rfl, hs0, hout, hln, hown, g1, hcw, hb0⟩ := hrel
        by_cases hst : s = tn
        · subst hst
          have hz : (gI f (s : Int)).toNat = 0 := by rw [HF10.out]; rfl
          have hfo : out = W := by
            have := hout.out
            rw [hz] at this
            simpa [pth] using this
          have HFO := Lib.hid hfo
          clear hout hz hfo
          go_wp2
          first | rw [Exit.noGoto_ret] | skip
          first | go_ret2 | (show bodyPost _ _ _ _ _ _; go_ret2)
          refine ⟨hb0, .inr ⟨by rw [HW3.out]; omega, _, rfl, ?_⟩⟩
          rw [HWW.out, ← HFO.out]
          exact World.ownsRow.rebase hown (by omega)
        · have hne : ((s : Int) != (tn : Int)) = true := by simp only [bne_iff_ne, ne_eq]; omega
          obtain ⟨hs1, hjx⟩ := HF11.out s hs hst hs0
          have HJ := Lib.hid hjx
          have hcw0 := hcw
          obtain ⟨q0, q1, q2, q3, q4, q5⟩ := hcw
          have hl0 := g1.lt
          obtain ⟨wo, rfl⟩ : ∃ wo : World, wo = wr := ⟨_, rfl⟩
          clear hjx
          go_wp2
          go_loopw [0, 14, 92] (fun x v i wr => ∃ j : Nat, j ≤ 6 ∧ x = .int .i64 s ∧ i = .int .i64 j ∧ Hid (∀ i, i < j → gI f (stp s (cw.getD i 0)) ≠ gI f s - 1) ∧ wr.ownsRow (w.heap.size + 1) 3 1 v out.length (out.map (Value.int .i64)) ∧ Blk wr w.heap.size 3 (cellsI f) ∧ Cw wr ∧ Below w.heap.size w wr) (fun _ _ i _ => 6 - (intOf i).toNat)
          case atStart => exact ⟨0, by omega, rfl, rfl, (fun i h => by omega), hown, g1, hcw0, hb0⟩
          case round =>
          clear hown g1 hcw0 hb0 q0 q1 q2 q3 q4 q5 hl0
          obtain ⟨j, hj, rfl, rfl, hno, hown, g1, hcw, hb0⟩ := hrel
          by_cases hj6 : j < 6
          · have ix := idx6 j hj6
            obtain ⟨c, hcj⟩ : ∃ c, cw.getD j 0 = c := ⟨_, rfl⟩
            rw [hcj] at ix
            obtain ⟨t, ht⟩ : ∃ t : Nat, stp s c = (t : Int) := ⟨(stp s c).toNat, by have := stp_in s c; omega⟩
            have ht8 : t < 8 := by have := stp_in s c; omega
            have hstp := fun W => step_walk s c W (by omega)
            rw [ht] at hstp
            obtain ⟨n, hn⟩ : ∃ n, gI f t = n := ⟨_, rfl⟩
            obtain ⟨m, hm⟩ : ∃ m, gI f s = m := ⟨_, rfl⟩
            have hnb := gI_bd (by decide) HF9.out t
            have hmb := gI_bd (by decide) HF9.out s
            rw [hn] at hnb
            rw [hm] at hmb hs1
            obtain ⟨hn1, hn2⟩ := hnb
            obtain ⟨hm1, hm2⟩ := hmb
            have hx := cellsI_get (i := (t : Int)) HF8.out (by omega) (by omega)
            have hy := cellsI_get (i := (s : Int)) HF8.out (by omega) (by omega)
            rw [hn] at hx
            rw [hm] at hy
            have hcat : cw[j]? = some c := by
              rw [← hcj, List.getD_eq_getElem?_getD, List.getElem?_eq_getElem (show j < cw.length from hj6)]
              rfl
            have HCAT := Lib.hid hcat
            have HCJ := Lib.hid hcj
            have HT := Lib.hid ht
            have HN := Lib.hid hn
            have HM := Lib.hid hm
            have HST := hide hstp
            have ew : IntKind.i64.wrap (m - 1) = m - 1 := IntWalk.i64_in _ (by omega)
            clear hstp hcat hcj ht hn hm
            go_wp2_with fail
            refine ((unhide HST) _).mono ?_
            rintro e w5 ⟨rfl, hb5⟩
            have g2 := g1.below hb5 g1.lt
            have hc2 := hcw.below hb5 hcw.lt
            have hb2 := hb0.trans (hb5.mono hb0.size)
            have hl2 := g2.lt
            have hown2 := own_below hown hb5 (Nat.le_refl _)
            have e1 := (g2.cell t).trans hx
            have e2 := (g2.cell s).trans hy
            clear g1 hcw hb0 hb5 HST hx hy hown
            by_cases heq : n = m - 1
            · have beq : (n == m - 1) = true := by simpa using heq
              have HEQ := Lib.hid heq
              clear heq
              go_wp2
              go_quiet (fail)
              have g3 := g2.drewN nq
              have hc3 := hc2.drewN nq
              have hown3 := hown2.drewN' nq
              have hb3 := below_drewN hb2 nq
              have hsz3 := hb3.size
              obtain ⟨wq, hwq⟩ : ∃ wq, w5.drewN nq = wq := ⟨_, rfl⟩
              rw [hwq] at g3 hc3 hown3 hb3 hsz3 ⊢
              have hl3 := g3.lt
              clear g2 hc2 hb2 hl2 hown2 e1 e2 hwq
              go_wp2_with (at_builtin; refine wpList_append_own _ rfl _ _ 34 rfl (w.heap.size + 1) 3 i0 _ 1 8 Tryd.underlying34 hi hz0 hz1 hz2 rfl (by decide) _ _ _ rfl (hown3.alloc _) ⟨wq.heap.size, 0, none⟩ 1 1 [.int .i64 c] rfl rfl ?e1 ?e2 ?e3 ?e4 ?e5 ?_)
              case e1 => exact news_alloc _ [_] _ _ rfl
              case e2 => intro u hu; simp at hu; subst hu; rfl
              case e3 => unfold maxLen; omega
              case e4 => omega
              case e5 => simp; omega
              intro v' w6 hown' hgrow _
              have hb4 := (hb3.alloc hsz3 (.cells #[.int .i64 c] 3)).grown hgrow (by simp; omega) (fun g hg => by have := own_ge hown3 g hg; omega)
              have hne : ∀ g, g < w.heap.size + 1 ∨ wq.heap.size ≤ g → some g ≠ u14.ownBlock := fun g hg => own_ne hown3 hg
              have g4 := (g3.alloc (.cells #[.int .i64 c] 3)).grown hgrow (hne _ (by omega))
              have hc4 : Cw w6 := hc3.grown' hgrow hne hlw
              go_wp2
              go_roundw
              case rel =>
                have hpk : pick f s cw = some c := pick_at f s cw j c HCAT.out (by rw [HT.out, HN.out, HM.out]; exact HEQ.out) (fun i c' hi hc' => by
                  have := hno.out i hi
                  rw [List.getD_eq_getElem?_getD, hc'] at this
                  exact this)
                have hmn : (gI f (s : Int)).toNat = (gI f (t : Int)).toNat + 1 := by rw [HM.out, HN.out, HEQ.out]; omega
                have hp2 : pth f (gI f (s : Int)).toNat s = c :: pth f (gI f (t : Int)).toNat t := by
                  rw [hmn]
                  show (match pick f s cw with | some c => c :: pth f (gI f (t : Int)).toNat (stp s c) | none => []) = _
                  rw [hpk]
                  show c :: pth f _ (stp s c) = _
                  rw [HT.out]
                refine ⟨t, out ++ [c], ht8, rfl, by rw [HN.out, HEQ.out]; omega, ?_, ?_, ?_, g4, hc4, hb4⟩
                · show _ = _
                  rw [← hout.out, hp2, List.append_assoc]
                  rfl
                · rw [hmn] at hln
                  simp only [List.length_append, List.length_singleton]
                  omega
                · simpa using hown'
              case measure =>
                simp only [intOf]
                rw [HM.out, HN.out, HEQ.out]
                omega
            · have beq : (n == m - 1) = false := by simpa using heq
              have HEQ := Lib.hid heq
              clear heq
              go_wp2
              go_quiet (fail)
              go_wp2
              go_roundw
              case rel =>
                refine ⟨j + 1, by omega, rfl, by go_num, ?_, hown2.drewN' nq, g2.drewN nq, hc2.drewN nq, below_drewN hb2 nq⟩
                intro i hi
                by_cases hij : i = j
                · subst hij
                  rw [HCJ.out, HT.out, HN.out, HM.out]
                  exact HEQ.out
                · exact hno.out i (by omega)
              case measure => simp [intOf]; omega
          · obtain rfl : j = 6 := by omega
            exfalso
            obtain ⟨jx, h6, he⟩ := HJ.out
            exact hno.out jx h6 he


end Go.Proofs.YtnoihjjenceeaaaDoor
