/- The walk of the reference's At of layer 23: which legs a pattern asks for at a count. -/
import Derived.Test.YtgnojdiecgfeaaaOwnB
import Derived.Test.YtgnojdiecgfeaaaGate2
namespace Go.Proofs.Ytgnojdiecgfeaaa
open Go.RowKit

def atB (f o t : Int) : Bool := decide (f ≤ t) && decide (t < o)
theorem load_bools3 {w : World} {g : Nat} {t : TypeId} {a b c : Value} (h : Blk w g t #[a, b, c]) : (loadVar 62 ⟨g, 0, none⟩).run Try.prog w = .ok (.agg #[a, b, c]) w := by
  obtain ⟨k0, k1, k2⟩ := h.c3
  simp [go_sem, k0, k1, k2]

set_option maxRecDepth 100000 in
set_option maxHeartbeats 1600000 in
theorem at23_walk (f o : Nat → Int) (t : Int) (w : World) : Calls Try.prog 37 #[.agg (cellsP f o), .int .i64 t] w fun e w' => e = .returned (.agg #[.bool (atB (f 0) (o 0) t), .bool (atB (f 1) (o 1) t), .bool (atB (f 2) (o 2) t)]) ∧ Below w.heap.size w w' := by
  unfold cellsP
  have iy0 := idx51_0 (.int .i64 (f 0)) (.int .i64 (o 0)) (.int .i64 (f 1)) (.int .i64 (o 1)) (.int .i64 (f 2)) (.int .i64 (o 2))
  have iy1 := idx51_1 (.int .i64 (f 0)) (.int .i64 (o 0)) (.int .i64 (f 1)) (.int .i64 (o 1)) (.int .i64 (f 2)) (.int .i64 (o 2))
  have iy2 := idx51_2 (.int .i64 (f 0)) (.int .i64 (o 0)) (.int .i64 (f 1)) (.int .i64 (o 1)) (.int .i64 (f 2)) (.int .i64 (o 2))
  go_enter Try.func37, Try.ntmps37
  go_wp2
  go_loopw [10] (fun i wr => ((i = .int .i64 0 ∧ Blk wr (w.heap.size + 1 + 1) 62 #[.bool false, .bool false, .bool false]) ∨ (i = .int .i64 1 ∧ Blk wr (w.heap.size + 1 + 1) 62 #[.bool (atB (f 0) (o 0) t), .bool false, .bool false]) ∨ (i = .int .i64 2 ∧ Blk wr (w.heap.size + 1 + 1) 62 #[.bool (atB (f 0) (o 0) t), .bool (atB (f 1) (o 1) t), .bool false]) ∨ (i = .int .i64 3 ∧ Blk wr (w.heap.size + 1 + 1) 62 #[.bool (atB (f 0) (o 0) t), .bool (atB (f 1) (o 1) t), .bool (atB (f 2) (o 2) t)])) ∧ Blk wr (w.heap.size + 1) 62 #[.bool false, .bool false, .bool false] ∧ Below w.heap.size w wr) (fun i _ => 3 - (intOf i).toNat)
  case atStart => exact ⟨.inl ⟨rfl, Blk.new' (by simp)⟩, (Blk.new' (by simp)).alloc _, (((Below.refl w.heap.size w).alloc (Nat.le_refl _) _).alloc (by simp) _).alloc (by simp <;> omega) _⟩
  case round =>
  obtain ⟨hd, hres, hb⟩ := hrel
  have hsz := hb.size
  have hl2 := hres.lt
  rcases hd with ⟨rfl, hr⟩ | ⟨rfl, hr⟩ | ⟨rfl, hr⟩ | ⟨rfl, hr⟩
  · have hcs : (f 0 ≤ t ∧ t < o 0 ∧ atB (f 0) (o 0) t = true) ∨ (f 0 ≤ t ∧ ¬ t < o 0 ∧ atB (f 0) (o 0) t = false) ∨ (¬ f 0 ≤ t ∧ atB (f 0) (o 0) t = false) := by
      unfold atB
      by_cases h1 : f 0 ≤ t <;> by_cases h2 : t < o 0 <;> simp [h1, h2]
    obtain ⟨r0, r1, r2⟩ := hr.c3
    have hl3 := hr.lt
    have f0 := hr.frozen 0
    rcases hcs with ⟨q1, q2, hv⟩ | ⟨q1, q2, hv⟩ | ⟨q1, hv⟩
    all_goals
      go_wp2
      go_roundw
      case rel => exact ⟨.inr (.inl ⟨rfl, by rw [hv]; exact (hr.set_ 0 _).alloc _⟩), (hres.far (by simp <;> omega) _).alloc _, (hb.setCell (by simp <;> omega) _).alloc (by simp <;> omega) _⟩
      case measure => simp [intOf]
  · have hcs : (f 1 ≤ t ∧ t < o 1 ∧ atB (f 1) (o 1) t = true) ∨ (f 1 ≤ t ∧ ¬ t < o 1 ∧ atB (f 1) (o 1) t = false) ∨ (¬ f 1 ≤ t ∧ atB (f 1) (o 1) t = false) := by
      unfold atB
      by_cases h1 : f 1 ≤ t <;> by_cases h2 : t < o 1 <;> simp [h1, h2]
    obtain ⟨r0, r1, r2⟩ := hr.c3
    have hl3 := hr.lt
    have f0 := hr.frozen 1
    rcases hcs with ⟨q1, q2, hv⟩ | ⟨q1, q2, hv⟩ | ⟨q1, hv⟩
    all_goals
      go_wp2
      go_roundw
      case rel => exact ⟨.inr (.inr (.inl ⟨rfl, by rw [hv]; exact (hr.set_ 1 _).alloc _⟩)), (hres.far (by simp <;> omega) _).alloc _, (hb.setCell (by simp <;> omega) _).alloc (by simp <;> omega) _⟩
      case measure => simp [intOf]
  · have hcs : (f 2 ≤ t ∧ t < o 2 ∧ atB (f 2) (o 2) t = true) ∨ (f 2 ≤ t ∧ ¬ t < o 2 ∧ atB (f 2) (o 2) t = false) ∨ (¬ f 2 ≤ t ∧ atB (f 2) (o 2) t = false) := by
      unfold atB
      by_cases h1 : f 2 ≤ t <;> by_cases h2 : t < o 2 <;> simp [h1, h2]
    obtain ⟨r0, r1, r2⟩ := hr.c3
    have hl3 := hr.lt
    have f0 := hr.frozen 2
    rcases hcs with ⟨q1, q2, hv⟩ | ⟨q1, q2, hv⟩ | ⟨q1, hv⟩
    all_goals
      go_wp2
      go_roundw
      case rel => exact ⟨.inr (.inr (.inr (⟨rfl, by rw [hv]; exact (hr.set_ 2 _).alloc _⟩))), (hres.far (by simp <;> omega) _).alloc _, (hb.setCell (by simp <;> omega) _).alloc (by simp <;> omega) _⟩
      case measure => simp [intOf]
  · obtain ⟨r0, r1, r2⟩ := hr.c3
    obtain ⟨z0, z1, z2⟩ := hres.c3
    have fz0 := hres.frozen 0
    have fz1 := hres.frozen 1
    have fz2 := hres.frozen 2
    go_wp2
    refine bodyPost_ret (ret_cell rfl rfl (load_bools3 (((hres.set_ 0 _).set_ 1 _).set_ 2 _))) rfl ⟨rfl, ?_⟩
    exact ((hb.setCell (by simp <;> omega) _).setCell (by simp <;> omega) _).setCell (by simp <;> omega) _

end Go.Proofs.Ytgnojdiecgfeaaa
