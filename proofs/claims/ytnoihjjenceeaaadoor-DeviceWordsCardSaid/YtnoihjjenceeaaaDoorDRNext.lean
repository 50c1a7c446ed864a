/- The walk of the reference's Next of layer 55. -/
import Derived.Test.YtnoihjjenceeaaaDoorDNext
namespace Go.Proofs.YtnoihjjenceeaaaDoor
open Go.RowKit

set_option maxRecDepth 100000 in
set_option maxHeartbeats 6400000 in
theorem rnext_walk (s c : Int) (link fault still done : Bool) (w : World) (h : 0 ≤ s ∧ s ≤ 7) : Calls Tryd.prog 14 #[.int .i64 s, .agg #[.int .i64 c, .bool link, .bool fault, .bool still, .bool done]] w fun e w' =>
    e = .returned (.int .i64 (nx s (bt c 1) (bt c 2) (bt c 4) (bt c 8) (bt c 128) fault link still done)) ∧ Below w.heap.size w w' := by
  have hb := (Below.refl w.heap.size w).alloc (Nat.le_refl _) (.cells #[.int .i64 c, .bool link, .bool fault, .bool still, .bool done] 23)
  have g0 := Blk.new w 23 #[.int .i64 c, .bool link, .bool fault, .bool still, .bool done]
  obtain ⟨x0, x1, x2, x3, x4⟩ := g0.c5
  obtain ⟨b1, hb1⟩ : ∃ b, bt c 1 = b := ⟨_, rfl⟩
  obtain ⟨b2, hb2⟩ : ∃ b, bt c 2 = b := ⟨_, rfl⟩
  obtain ⟨b4, hb4⟩ : ∃ b, bt c 4 = b := ⟨_, rfl⟩
  obtain ⟨b8, hb8⟩ : ∃ b, bt c 8 = b := ⟨_, rfl⟩
  obtain ⟨b128, hb128⟩ : ∃ b, bt c 128 = b := ⟨_, rfl⟩
  rw [hb1, hb2, hb4, hb8, hb128]
  unfold bt at hb1 hb2 hb4 hb8 hb128
  have HS := Lib.hid (st_cases h)
  clear h
  go_enter Tryd.func14, Tryd.ntmps14
  go_wp2
  go_quiet (fail)
  clear hb1 hb2 hb4 hb8 hb128
  obtain ⟨_, y0, y2, y3, y4⟩ := (g0.drewN nq).c5
  have hbq := below_drewN hb nq
  clear g0 hb x0 x1 x2 x3 x4
  rcases HS.out with rfl | rfl | rfl | rfl | rfl | rfl | rfl | rfl
  · cases fault
    · (go_wp2; go_ret; exact ⟨by simp [nx], hbq⟩)
    · (go_wp2; go_ret; exact ⟨by simp [nx], hbq⟩)
  · cases fault
    · cases b1
      · cases b2
        · (go_wp2; go_ret; exact ⟨by simp [nx], hbq⟩)
        · cases b4
          · (go_wp2; go_ret; exact ⟨by simp [nx], hbq⟩)
          · (go_wp2; go_ret; exact ⟨by simp [nx], hbq⟩)
      · (go_wp2; go_ret; exact ⟨by simp [nx], hbq⟩)
    · (go_wp2; go_ret; exact ⟨by simp [nx], hbq⟩)
  · cases fault
    · cases b2
      · (go_wp2; go_ret; exact ⟨by simp [nx], hbq⟩)
      · cases b4
        · (go_wp2; go_ret; exact ⟨by simp [nx], hbq⟩)
        · cases b1
          · (go_wp2; go_ret; exact ⟨by simp [nx], hbq⟩)
          · cases link
            · (go_wp2; go_ret; exact ⟨by simp [nx], hbq⟩)
            · (go_wp2; go_ret; exact ⟨by simp [nx], hbq⟩)
    · (go_wp2; go_ret; exact ⟨by simp [nx], hbq⟩)
  · cases fault
    · cases b2
      · (go_wp2; go_ret; exact ⟨by simp [nx], hbq⟩)
      · cases b4
        · (go_wp2; go_ret; exact ⟨by simp [nx], hbq⟩)
        · cases b1
          · (go_wp2; go_ret; exact ⟨by simp [nx], hbq⟩)
          · cases b8
            · (go_wp2; go_ret; exact ⟨by simp [nx], hbq⟩)
            · (go_wp2; go_ret; exact ⟨by simp [nx], hbq⟩)
    · (go_wp2; go_ret; exact ⟨by simp [nx], hbq⟩)
  · cases fault
    · cases b2
      · (go_wp2; go_ret; exact ⟨by simp [nx], hbq⟩)
      · cases b4
        · (go_wp2; go_ret; exact ⟨by simp [nx], hbq⟩)
        · cases b1
          · (go_wp2; go_ret; exact ⟨by simp [nx], hbq⟩)
          · cases b8
            · (go_wp2; go_ret; exact ⟨by simp [nx], hbq⟩)
            · (go_wp2; go_ret; exact ⟨by simp [nx], hbq⟩)
    · (go_wp2; go_ret; exact ⟨by simp [nx], hbq⟩)
  · cases fault
    · cases b2
      · (go_wp2; go_ret; exact ⟨by simp [nx], hbq⟩)
      · cases b4
        · cases still
          · (go_wp2; go_ret; exact ⟨by simp [nx], hbq⟩)
          · (go_wp2; go_ret; exact ⟨by simp [nx], hbq⟩)
        · cases still
          · (go_wp2; go_ret; exact ⟨by simp [nx], hbq⟩)
          · (go_wp2; go_ret; exact ⟨by simp [nx], hbq⟩)
    · (go_wp2; go_ret; exact ⟨by simp [nx], hbq⟩)
  · cases fault
    · cases done
      · (go_wp2; go_ret; exact ⟨by simp [nx], hbq⟩)
      · (go_wp2; go_ret; exact ⟨by simp [nx], hbq⟩)
    · cases done
      · (go_wp2; go_ret; exact ⟨by simp [nx], hbq⟩)
      · (go_wp2; go_ret; exact ⟨by simp [nx], hbq⟩)
  · cases fault
    · cases b128
      · (go_wp2; go_ret; exact ⟨by simp [nx], hbq⟩)
      · (go_wp2; go_ret; exact ⟨by simp [nx], hbq⟩)
    · cases b128
      · (go_wp2; go_ret; exact ⟨by simp [nx], hbq⟩)
      · (go_wp2; go_ret; exact ⟨by simp [nx], hbq⟩)

end Go.Proofs.YtnoihjjenceeaaaDoor
