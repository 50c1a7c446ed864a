/- The walks of layer 24's small functions: number, wanted, on, ranges; and the reference's. -/
import Derived.Test.YtgnojdiecgfeaaaPlainG
import Derived.Test.YtgnojdiecgfeaaaSorted
namespace Go.Proofs.Ytgnojdiecgfeaaa
open Go.RowKit

theorem number_walk (leg side : Int) (h0 : 0 ≤ leg) (h2 : leg ≤ 2) (w : World) : Calls Try.prog 67 #[.int .i64 leg, .int .i64 side] w fun e w' => e = .returned (.int .i64 (numb leg side)) ∧ w = w' := by
  by_cases h : side = 2
  · subst h
    have hn : Hid (numb leg 2 = 2 * leg) := if_pos rfl
    go_enter Try.func67, Try.ntmps67
    go_wp2
    go_ret
    exact ⟨by rw [hn.out]; rfl, rfl⟩
  · have hn : Hid (numb leg side = 2 * leg + 1) := if_neg h
    go_enter Try.func67, Try.ntmps67
    go_wp2
    go_ret
    exact ⟨by rw [hn.out]; rfl, rfl⟩
theorem wanted_walk (f o t trip : Int) (w : World) : Calls Try.prog 66 #[.agg #[.int .i64 f, .int .i64 o], .int .i64 t, .int .i64 trip] w fun e w' => e = .returned (.int .i64 (wantF f o t trip)) ∧ Below w.heap.size w w' := by
  have hb := (Below.refl w.heap.size w).alloc (Nat.le_refl _) (.cells #[.int .i64 f, .int .i64 o] 50)
  by_cases h : trip ≤ t
  · have hn : Hid (wantF f o t trip = 0) := if_pos h
    go_enter Try.func66, Try.ntmps66
    go_wp2
    go_ret
    exact ⟨by rw [hn.out]; rfl, hb⟩
  · by_cases h1 : f ≤ t
    · by_cases h2 : t < o
      · have hn : Hid (wantF f o t trip = 2) := (if_neg h).trans (if_pos ⟨h1, h2⟩)
        go_enter Try.func66, Try.ntmps66
        go_wp2
        go_ret
        exact ⟨by rw [hn.out]; rfl, hb⟩
      · have hn : Hid (wantF f o t trip = 1) := (if_neg h).trans (if_neg (by omega))
        go_enter Try.func66, Try.ntmps66
        go_wp2
        go_ret
        exact ⟨by rw [hn.out]; rfl, hb⟩
    · have hn : Hid (wantF f o t trip = 1) := (if_neg h).trans (if_neg (by omega))
      go_enter Try.func66, Try.ntmps66
      go_wp2
      go_ret
      exact ⟨by rw [hn.out]; rfl, hb⟩

theorem idx48_0 (a b c d e f : Value) (w : World) : (Instr.index 48 (.agg #[a, b, c, d, e, f]) (.int .i64 0)).run Try.prog w = .ok (.agg #[a, b]) w := by kernel_rfl
theorem idx48_1 (a b c d e f : Value) (w : World) : (Instr.index 48 (.agg #[a, b, c, d, e, f]) (.int .i64 1)).run Try.prog w = .ok (.agg #[c, d]) w := by kernel_rfl
theorem idx48_2 (a b c d e f : Value) (w : World) : (Instr.index 48 (.agg #[a, b, c, d, e, f]) (.int .i64 2)).run Try.prog w = .ok (.agg #[e, f]) w := by kernel_rfl
theorem idx51_0 (a b c d e f : Value) (w : World) : (Instr.index 51 (.agg #[a, b, c, d, e, f]) (.int .i64 0)).run Try.prog w = .ok (.agg #[a, b]) w := by kernel_rfl
theorem idx51_1 (a b c d e f : Value) (w : World) : (Instr.index 51 (.agg #[a, b, c, d, e, f]) (.int .i64 1)).run Try.prog w = .ok (.agg #[c, d]) w := by kernel_rfl
theorem idx51_2 (a b c d e f : Value) (w : World) : (Instr.index 51 (.agg #[a, b, c, d, e, f]) (.int .i64 2)).run Try.prog w = .ok (.agg #[e, f]) w := by kernel_rfl
theorem load_six {w : World} {g : Nat} {t : TypeId} {a b c d e f : Value} (h : Blk w g t #[a, b, c, d, e, f]) : (loadVar 22 ⟨g, 0, none⟩).run Try.prog w = .ok (.agg #[a, b, c, d, e, f]) w := by
  obtain ⟨k0, k1, k2, k3, k4, k5⟩ := h.c6
  simp [go_sem, k0, k1, k2, k3, k4, k5]
theorem load_legs {w : World} {g : Nat} {t : TypeId} {a b c d e f : Value} (h : Blk w g t #[a, b, c, d, e, f]) : (loadVar 48 ⟨g, 0, none⟩).run Try.prog w = .ok (.agg #[a, b, c, d, e, f]) w := by
  obtain ⟨k0, k1, k2, k3, k4, k5⟩ := h.c6
  simp [go_sem, k0, k1, k2, k3, k4, k5]

end Go.Proofs.Ytgnojdiecgfeaaa
