/- The walk of device.Next. -/
import Derived.Test.YtnoihjjenceeaaaDoorRows
import Derived.Test.YtnoihjjenceeaaaDoorWords
import Derived.Test.YtnoihjjenceeaaaDoorDPlain
namespace Go.Proofs.YtnoihjjenceeaaaDoor
open Go.RowKit

theorem hide {p : Prop} (h : p) : Hid p := h
theorem unhide {p : Prop} (h : Hid p) : p := h
theorem Blk.c5 {w : World} {g : Nat} {t : TypeId} {v0 v1 v2 v3 v4 : Value} (h : Blk w g t #[v0, v1, v2, v3, v4]) : w.cell? ⟨g, 0, none⟩ = some v0 ∧ w.cell? ⟨g, 1, none⟩ = some v1 ∧ w.cell? ⟨g, 2, none⟩ = some v2 ∧ w.cell? ⟨g, 3, none⟩ = some v3 ∧ w.cell? ⟨g, 4, none⟩ = some v4 := ⟨h.cell 0, h.cell 1, h.cell 2, h.cell 3, h.cell 4⟩
/-- An error's value: nil for 0. -/
def errV (n : Int) : Value := if n = 0 then .nilIface else .iface 31 (.int .i64 n)
theorem errV_zero : errV 0 = .nilIface := rfl
theorem errV_ne {n : Int} (h : n ≠ 0) : errV n = .iface 31 (.int .i64 n) := if_neg h
/-- Whether a number has a bit. -/
def bt (c m : Int) : Bool := bits .and .i64 c m != 0
theorem known_walk (s : Int) (w : World) : Calls Tryd.prog 25 #[.int .i64 s] w fun e w' => e = .returned (.bool (stOk s)) ∧ w = w' := by
  have hs : (0 ≤ s ∧ s ≤ 7 ∧ stOk s = true) ∨ (0 ≤ s ∧ ¬ s ≤ 7 ∧ stOk s = false) ∨ (¬ 0 ≤ s ∧ stOk s = false) := by
    unfold stOk
    by_cases h1 : 0 ≤ s <;> by_cases h2 : s ≤ 7 <;> simp [h1, h2]
  rcases hs with ⟨h1, h2, h3⟩ | ⟨h1, h2, h3⟩ | ⟨h1, h3⟩
  all_goals
    rw [h3]
    go_enter Tryd.func25, Tryd.ntmps25
    go_wp2
    go_ret
    exact ⟨rfl, rfl⟩
set_option maxRecDepth 100000 in
set_option maxHeartbeats 6400000 in
theorem next_bad (s c : Int) (link fault still done : Bool) (w : World) (h : stOk s = false) : Calls Tryd.prog 11 #[.int .i64 s, .agg #[.int .i64 c, .bool link, .bool fault, .bool still, .bool done]] w fun e w' =>
    e = .returned (.tuple #[.int .i64 0, .iface 31 (.int .i64 3)]) ∧ Below w.heap.size w w' := by
  have hb := (Below.refl w.heap.size w).alloc (Nat.le_refl _) (.cells #[.int .i64 c, .bool link, .bool fault, .bool still, .bool done] 23)
  have hk := fun W => known_walk s W
  rw [h] at hk
  have HK := hide hk
  clear hk h
  go_enter Tryd.func11, Tryd.ntmps11
  go_wp2_with fail
  refine ((unhide HK) _).mono ?_
  rintro e w1 ⟨rfl, rfl⟩
  go_wp2
  go_ret2
  exact ⟨rfl, hb⟩
set_option maxRecDepth 100000 in
set_option maxHeartbeats 6400000 in
theorem next_walk (s c : Int) (link fault still done : Bool) (w : World) (h : 0 ≤ s ∧ s ≤ 7) : Calls Tryd.prog 11 #[.int .i64 s, .agg #[.int .i64 c, .bool link, .bool fault, .bool still, .bool done]] w fun e w' =>
    e = .returned (.tuple #[.int .i64 (nx s (bt c 1) (bt c 2) (bt c 4) (bt c 8) (bt c 128) fault link still done), .nilIface]) ∧ Below w.heap.size w w' := by
  have hb := (Below.refl w.heap.size w).alloc (Nat.le_refl _) (.cells #[.int .i64 c, .bool link, .bool fault, .bool still, .bool done] 23)
  have g0 := Blk.new w 23 #[.int .i64 c, .bool link, .bool fault, .bool still, .bool done]
  obtain ⟨x0, x1, x2, x3, x4⟩ := g0.c5
  have hk := fun W => known_walk s W
  rw [stOk_iff.2 h] at hk
  have HK := hide hk
  obtain ⟨b1, hb1⟩ : ∃ b, bt c 1 = b := ⟨_, rfl⟩
  obtain ⟨b2, hb2⟩ : ∃ b, bt c 2 = b := ⟨_, rfl⟩
  obtain ⟨b4, hb4⟩ : ∃ b, bt c 4 = b := ⟨_, rfl⟩
  obtain ⟨b8, hb8⟩ : ∃ b, bt c 8 = b := ⟨_, rfl⟩
  obtain ⟨b128, hb128⟩ : ∃ b, bt c 128 = b := ⟨_, rfl⟩
  rw [hb1, hb2, hb4, hb8, hb128]
  unfold bt at hb1 hb2 hb4 hb8 hb128
  have HS := Lib.hid (st_cases h)
  clear hk h
  go_enter Tryd.func11, Tryd.ntmps11
  go_wp2_with fail
  refine ((unhide HK) _).mono ?_
  rintro e w1 ⟨rfl, rfl⟩
  go_wp2
  go_quiet (fail)
  clear hb1 hb2 hb4 hb8 hb128
  obtain ⟨_, y0, y2, y3, y4⟩ := (g0.drewN nq).c5
  have hbq := below_drewN hb nq
  clear g0 hb x0 x1 x2 x3 x4
  rcases HS.out with rfl | rfl | rfl | rfl | rfl | rfl | rfl | rfl
  · cases fault
    · (go_wp2; go_ret2; exact ⟨by simp [nx], hbq⟩)
    · (go_wp2; go_ret2; exact ⟨by simp [nx], hbq⟩)
  · cases fault
    · cases b1
      · cases b2
        · (go_wp2; go_ret2; exact ⟨by simp [nx], hbq⟩)
        · cases b4
          · (go_wp2; go_ret2; exact ⟨by simp [nx], hbq⟩)
          · (go_wp2; go_ret2; exact ⟨by simp [nx], hbq⟩)
      · (go_wp2; go_ret2; exact ⟨by simp [nx], hbq⟩)
    · (go_wp2; go_ret2; exact ⟨by simp [nx], hbq⟩)
  · cases fault
    · cases b2
      · (go_wp2; go_ret2; exact ⟨by simp [nx], hbq⟩)
      · cases b4
        · (go_wp2; go_ret2; exact ⟨by simp [nx], hbq⟩)
        · cases b1
          · (go_wp2; go_ret2; exact ⟨by simp [nx], hbq⟩)
          · cases link
            · (go_wp2; go_ret2; exact ⟨by simp [nx], hbq⟩)
            · (go_wp2; go_ret2; exact ⟨by simp [nx], hbq⟩)
    · (go_wp2; go_ret2; exact ⟨by simp [nx], hbq⟩)
  · cases fault
    · cases b2
      · (go_wp2; go_ret2; exact ⟨by simp [nx], hbq⟩)
      · cases b4
        · (go_wp2; go_ret2; exact ⟨by simp [nx], hbq⟩)
        · cases b1
          · (go_wp2; go_ret2; exact ⟨by simp [nx], hbq⟩)
          · cases b8
            · (go_wp2; go_ret2; exact ⟨by simp [nx], hbq⟩)
            · (go_wp2; go_ret2; exact ⟨by simp [nx], hbq⟩)
    · (go_wp2; go_ret2; exact ⟨by simp [nx], hbq⟩)
  · cases fault
    · cases b2
      · (go_wp2; go_ret2; exact ⟨by simp [nx], hbq⟩)
      · cases b4
        · (go_wp2; go_ret2; exact ⟨by simp [nx], hbq⟩)
        · cases b1
          · (go_wp2; go_ret2; exact ⟨by simp [nx], hbq⟩)
          · cases b8
            · (go_wp2; go_ret2; exact ⟨by simp [nx], hbq⟩)
            · (go_wp2; go_ret2; exact ⟨by simp [nx], hbq⟩)
    · (go_wp2; go_ret2; exact ⟨by simp [nx], hbq⟩)
  · cases fault
    · cases b2
      · (go_wp2; go_ret2; exact ⟨by simp [nx], hbq⟩)
      · cases b4
        · cases still
          · (go_wp2; go_ret2; exact ⟨by simp [nx], hbq⟩)
          · (go_wp2; go_ret2; exact ⟨by simp [nx], hbq⟩)
        · cases still
          · (go_wp2; go_ret2; exact ⟨by simp [nx], hbq⟩)
          · (go_wp2; go_ret2; exact ⟨by simp [nx], hbq⟩)
    · (go_wp2; go_ret2; exact ⟨by simp [nx], hbq⟩)
  · cases fault
    · cases done
      · (go_wp2; go_ret2; exact ⟨by simp [nx], hbq⟩)
      · (go_wp2; go_ret2; exact ⟨by simp [nx], hbq⟩)
    · cases done
      · (go_wp2; go_ret2; exact ⟨by simp [nx], hbq⟩)
      · (go_wp2; go_ret2; exact ⟨by simp [nx], hbq⟩)
  · cases fault
    · cases b128
      · (go_wp2; go_ret2; exact ⟨by simp [nx], hbq⟩)
      · (go_wp2; go_ret2; exact ⟨by simp [nx], hbq⟩)
    · cases b128
      · (go_wp2; go_ret2; exact ⟨by simp [nx], hbq⟩)
      · (go_wp2; go_ret2; exact ⟨by simp [nx], hbq⟩)

end Go.Proofs.YtnoihjjenceeaaaDoor
