/- The walks of layer 24's Off and of the reference's. -/
import Derived.Test.YtgnojdiecgfeaaaOwnB
import Derived.Test.YtgnojdiecgfeaaaGate2
namespace Go.Proofs.Ytgnojdiecgfeaaa
open Go.RowKit

/-- The state with all switches off. -/
def offL (x : Nat → Lg) : Nat → Lg := fun l => ⟨0, if (x l).s = 1 ∨ (x l).s = 2 then 0 else (x l).j⟩
theorem cellsL_set0 (y x : Nat → Lg) {m : Nat} (hm : m < 3) (hj : (y m).j = (x m).j) : (cellsL (mixL m y x)).setIfInBounds (m * 2) (.int .i64 (y m).s) = cellsL (mixL (m + 1) y x) := by
  match m, hm with
  | 0, _ => simp [cellsL, mixL, hj]
  | 1, _ => simp [cellsL, mixL, hj]
  | 2, _ => simp [cellsL, mixL, hj]
theorem cellsL_setr (y x : Nat → Lg) {m : Nat} (hm : m < 3) : ((cellsL (mixL m y x)).setIfInBounds (m * 2 + 1) (.int .i64 (y m).j)).setIfInBounds (m * 2) (.int .i64 (y m).s) = cellsL (mixL (m + 1) y x) := by
  match m, hm with
  | 0, _ => simp [cellsL, mixL]
  | 1, _ => simp [cellsL, mixL]
  | 2, _ => simp [cellsL, mixL]

set_option maxRecDepth 100000 in
set_option maxHeartbeats 1600000 in
theorem off_walk (x : Nat → Lg) (w : World) : Calls Try.prog 45 #[.agg (cellsL x)] w fun e w' => e = .returned (.agg (cellsL (offL x))) ∧ Below w.heap.size w w' := by
  have h0 := (Blk.new w 48 (cellsL x)).alloc (.cells #[.int .i64 0, .int .i64 0, .int .i64 0, .int .i64 0, .int .i64 0, .int .i64 0] 48)
  have h1 := Blk.new' (w := w.alloc (.cells (cellsL x) 48)) (t := 48) (cs := #[.int .i64 0, .int .i64 0, .int .i64 0, .int .i64 0, .int .i64 0, .int .i64 0]) (g := w.heap.size + 1) (by simp)
  have hb := ((Below.refl w.heap.size w).alloc (Nat.le_refl _) (.cells (cellsL x) 48)).alloc (by simp) (.cells #[.int .i64 0, .int .i64 0, .int .i64 0, .int .i64 0, .int .i64 0, .int .i64 0] 48)
  go_enter Try.func45, Try.ntmps45
  go_wp2
  go_loopw [4] (fun i wr => ∃ m : Nat, m ≤ 3 ∧ i = .int .i64 m ∧ Blk wr w.heap.size 48 (cellsL (mixL m (offL x) x)) ∧ Blk wr (w.heap.size + 1) 48 #[.int .i64 0, .int .i64 0, .int .i64 0, .int .i64 0, .int .i64 0, .int .i64 0] ∧ Below w.heap.size w wr) (fun i _ => 3 - (intOf i).toNat)
  case atStart => exact ⟨0, by omega, rfl, by rw [mixL_zero]; exact h0, h1, hb⟩
  case round =>
  clear h0 h1 hb
  obtain ⟨m, hm, rfl, h0, h1, hb⟩ := hrel
  by_cases hm3 : (m : Int) < 3
  · have hmn : m < 3 := by omega
    obtain ⟨⟨a, d⟩, had⟩ : ∃ L, x m = L := ⟨_, rfl⟩
    have hyS : wr.cell? ⟨w.heap.size, m * 2, none⟩ = some (.int .i64 a) := by rw [h0.cell, cellsL_s _ hmn, mixL_at, had]
    have hyJ : wr.cell? ⟨w.heap.size, m * 2 + 1, none⟩ = some (.int .i64 d) := by rw [h0.cell, cellsL_j _ hmn, mixL_at, had]
    have hfS := h0.frozen (m * 2)
    have hfJ := h0.frozen (m * 2 + 1)
    have ho : Hid (offL x m = ⟨0, if a = 1 ∨ a = 2 then 0 else d⟩) := by show _ = _; unfold offL; rw [had]
    have HAD := Lib.hid had
    clear had
    have hcs : a = 1 ∨ a = 2 ∨ (a ≠ 1 ∧ a ≠ 2) := by omega
    rcases hcs with q1 | q1 | ⟨q1, q2⟩
    · subst q1
      go_wp2
      go_roundw
      case rel =>
        refine ⟨m + 1, by omega, by go_num, ?_, (h1.far (by simp <;> omega) _).far (by simp <;> omega) _, (hb.setCell (by simp <;> omega) _).setCell (by simp <;> omega) _⟩
        have h4 := (h0.set_ (m * 2 + 1) (.int .i64 0)).set_ (m * 2) (.int .i64 0)
        have e4 := cellsL_setr (offL x) x hmn
        rw [ho.out] at e4
        simp only [true_or, if_true] at e4
        rw [e4] at h4
        exact h4
      case measure => simp [intOf]; omega
    · subst q1
      go_wp2
      go_roundw
      case rel =>
        refine ⟨m + 1, by omega, by go_num, ?_, (h1.far (by simp <;> omega) _).far (by simp <;> omega) _, (hb.setCell (by simp <;> omega) _).setCell (by simp <;> omega) _⟩
        have h4 := (h0.set_ (m * 2 + 1) (.int .i64 0)).set_ (m * 2) (.int .i64 0)
        have e4 := cellsL_setr (offL x) x hmn
        rw [ho.out] at e4
        simp only [or_true, if_true] at e4
        rw [e4] at h4
        exact h4
      case measure => simp [intOf]; omega
    · have b1 : (a == 1) = false := by simpa using q1
      have b2 : (a == 2) = false := by simpa using q2
      go_wp2
      go_roundw
      case rel =>
        refine ⟨m + 1, by omega, by go_num, ?_, h1.far (by simp <;> omega) _, hb.setCell (by simp <;> omega) _⟩
        have h4 := h0.set_ (m * 2) (.int .i64 0)
        have e4 := cellsL_set0 (offL x) x hmn (by rw [ho.out, HAD.out]; exact if_neg (by omega))
        rw [ho.out] at e4
        rw [e4] at h4
        exact h4
      case measure => simp [intOf]; omega
  · obtain rfl : m = 3 := by omega
    rw [cellsL_mix3] at h0
    obtain ⟨y0, y1, y2, y3, y4, y5⟩ := h0.c6
    obtain ⟨z0, z1, z2, z3, z4, z5⟩ := h1.c6
    have fz0 := h1.frozen 0
    have fz1 := h1.frozen 1
    have fz2 := h1.frozen 2
    have fz3 := h1.frozen 3
    have fz4 := h1.frozen 4
    have fz5 := h1.frozen 5
    go_wp2
    refine bodyPost_ret (ret_cell rfl rfl (load_legs ((((((h1.set_ 0 _).set_ 1 _).set_ 2 _).set_ 3 _).set_ 4 _).set_ 5 _))) rfl ⟨rfl, ?_⟩
    exact (((((hb.setCell (by simp <;> omega) _).setCell (by simp <;> omega) _).setCell (by simp <;> omega) _).setCell (by simp <;> omega) _).setCell (by simp <;> omega) _).setCell (by simp <;> omega) _

set_option maxRecDepth 100000 in
set_option maxHeartbeats 1600000 in
theorem roff_walk (x : Nat → Lg) (w : World) : Calls Try.prog 46 #[.agg (cellsL x)] w fun e w' => e = .returned (.agg (cellsL (offL x))) ∧ Below w.heap.size w w' := by
  have h0 := (Blk.new w 48 (cellsL x)).alloc (.cells #[.int .i64 0, .int .i64 0, .int .i64 0, .int .i64 0, .int .i64 0, .int .i64 0] 48)
  have h1 := Blk.new' (w := w.alloc (.cells (cellsL x) 48)) (t := 48) (cs := #[.int .i64 0, .int .i64 0, .int .i64 0, .int .i64 0, .int .i64 0, .int .i64 0]) (g := w.heap.size + 1) (by simp)
  have hb := ((Below.refl w.heap.size w).alloc (Nat.le_refl _) (.cells (cellsL x) 48)).alloc (by simp) (.cells #[.int .i64 0, .int .i64 0, .int .i64 0, .int .i64 0, .int .i64 0, .int .i64 0] 48)
  go_enter Try.func46, Try.ntmps46
  go_wp2
  go_loopw [4] (fun i wr => ∃ m : Nat, m ≤ 3 ∧ i = .int .i64 m ∧ Blk wr w.heap.size 48 (cellsL (mixL m (offL x) x)) ∧ Blk wr (w.heap.size + 1) 48 #[.int .i64 0, .int .i64 0, .int .i64 0, .int .i64 0, .int .i64 0, .int .i64 0] ∧ Below w.heap.size w wr) (fun i _ => 3 - (intOf i).toNat)
  case atStart => exact ⟨0, by omega, rfl, by rw [mixL_zero]; exact h0, h1, hb⟩
  case round =>
  clear h0 h1 hb
  obtain ⟨m, hm, rfl, h0, h1, hb⟩ := hrel
  by_cases hm3 : (m : Int) < 3
  · have hmn : m < 3 := by omega
    obtain ⟨⟨a, d⟩, had⟩ : ∃ L, x m = L := ⟨_, rfl⟩
    have hyS : wr.cell? ⟨w.heap.size, m * 2, none⟩ = some (.int .i64 a) := by rw [h0.cell, cellsL_s _ hmn, mixL_at, had]
    have hyJ : wr.cell? ⟨w.heap.size, m * 2 + 1, none⟩ = some (.int .i64 d) := by rw [h0.cell, cellsL_j _ hmn, mixL_at, had]
    have hfS := h0.frozen (m * 2)
    have hfJ := h0.frozen (m * 2 + 1)
    have ho : Hid (offL x m = ⟨0, if a = 1 ∨ a = 2 then 0 else d⟩) := by show _ = _; unfold offL; rw [had]
    have HAD := Lib.hid had
    clear had
    have hcs : a = 1 ∨ a = 2 ∨ (a ≠ 1 ∧ a ≠ 2) := by omega
    rcases hcs with q1 | q1 | ⟨q1, q2⟩
    · subst q1
      go_wp2
      go_roundw
      case rel =>
        refine ⟨m + 1, by omega, by go_num, ?_, (h1.far (by simp <;> omega) _).far (by simp <;> omega) _, (hb.setCell (by simp <;> omega) _).setCell (by simp <;> omega) _⟩
        have h4 := (h0.set_ (m * 2 + 1) (.int .i64 0)).set_ (m * 2) (.int .i64 0)
        have e4 := cellsL_setr (offL x) x hmn
        rw [ho.out] at e4
        simp only [true_or, if_true] at e4
        rw [e4] at h4
        exact h4
      case measure => simp [intOf]; omega
    · subst q1
      go_wp2
      go_roundw
      case rel =>
        refine ⟨m + 1, by omega, by go_num, ?_, (h1.far (by simp <;> omega) _).far (by simp <;> omega) _, (hb.setCell (by simp <;> omega) _).setCell (by simp <;> omega) _⟩
        have h4 := (h0.set_ (m * 2 + 1) (.int .i64 0)).set_ (m * 2) (.int .i64 0)
        have e4 := cellsL_setr (offL x) x hmn
        rw [ho.out] at e4
        simp only [or_true, if_true] at e4
        rw [e4] at h4
        exact h4
      case measure => simp [intOf]; omega
    · have b1 : (a == 1) = false := by simpa using q1
      have b2 : (a == 2) = false := by simpa using q2
      go_wp2
      go_roundw
      case rel =>
        refine ⟨m + 1, by omega, by go_num, ?_, h1.far (by simp <;> omega) _, hb.setCell (by simp <;> omega) _⟩
        have h4 := h0.set_ (m * 2) (.int .i64 0)
        have e4 := cellsL_set0 (offL x) x hmn (by rw [ho.out, HAD.out]; exact if_neg (by omega))
        rw [ho.out] at e4
        rw [e4] at h4
        exact h4
      case measure => simp [intOf]; omega
  · obtain rfl : m = 3 := by omega
    rw [cellsL_mix3] at h0
    obtain ⟨y0, y1, y2, y3, y4, y5⟩ := h0.c6
    obtain ⟨z0, z1, z2, z3, z4, z5⟩ := h1.c6
    have fz0 := h1.frozen 0
    have fz1 := h1.frozen 1
    have fz2 := h1.frozen 2
    have fz3 := h1.frozen 3
    have fz4 := h1.frozen 4
    have fz5 := h1.frozen 5
    go_wp2
    refine bodyPost_ret (ret_cell rfl rfl (load_legs ((((((h1.set_ 0 _).set_ 1 _).set_ 2 _).set_ 3 _).set_ 4 _).set_ 5 _))) rfl ⟨rfl, ?_⟩
    exact (((((hb.setCell (by simp <;> omega) _).setCell (by simp <;> omega) _).setCell (by simp <;> omega) _).setCell (by simp <;> omega) _).setCell (by simp <;> omega) _).setCell (by simp <;> omega) _

end Go.Proofs.Ytgnojdiecgfeaaa
