/- An own row in a later world of which only 'Below' is known; cells of three legs. No program in sight. -/
import Derived.Test.YtgnojdiecgfeaaaOwnSet
import Derived.Test.YtgnojdiecgfeaaaPlainG
namespace Go.Proofs.Ytgnojdiecgfeaaa
open Go.RowKit

theorem own_below {w w' : World} {base B : Nat} {e : TypeId} {size : Nat} {v : Value} {n : Nat} {xs : List Value} (h : w.ownsRow base e size v n xs) (hb : Below B w w') (hB : w.heap.size ≤ B) : w'.ownsRow base e size v n xs := by
  refine ⟨h.1, ?_⟩
  rcases h.2 with h2 | ⟨g, cap, cur, hv, hg, hh, r⟩
  · exact .inl h2
  · exact .inr ⟨g, cap, cur, hv, hg, (hb.block g (Nat.lt_of_lt_of_le (Blk.lt hh) hB)).trans hh, r⟩
/-- The cells of three legs. -/
def cellsL (x : Nat → Lg) : Array Value := #[.int .i64 (x 0).s, .int .i64 (x 0).j, .int .i64 (x 1).s, .int .i64 (x 1).j, .int .i64 (x 2).s, .int .i64 (x 2).j]
/-- The legs of which those ahead of m have been turned. -/
def mixL (m : Nat) (y x : Nat → Lg) : Nat → Lg := fun l => if l < m then y l else x l
theorem mixL_zero (y x : Nat → Lg) : mixL 0 y x = x := by funext l; simp [mixL]
theorem cellsL_mix3 (y x : Nat → Lg) : cellsL (mixL 3 y x) = cellsL y := rfl
theorem cellsL_s (x : Nat → Lg) {m : Nat} (hm : m < 3) : (cellsL x)[m * 2]? = some (.int .i64 (x m).s) := by
  match m, hm with
  | 0, _ => rfl
  | 1, _ => rfl
  | 2, _ => rfl
theorem cellsL_j (x : Nat → Lg) {m : Nat} (hm : m < 3) : (cellsL x)[m * 2 + 1]? = some (.int .i64 (x m).j) := by
  match m, hm with
  | 0, _ => rfl
  | 1, _ => rfl
  | 2, _ => rfl
theorem mixL_at (m : Nat) (y x : Nat → Lg) : mixL m y x m = x m := by simp [mixL]
theorem cellsL_set_s (y x : Nat → Lg) {m : Nat} (hm : m < 3) (hs : (y m).s = (x m).s) : (cellsL (mixL m y x)).setIfInBounds (m * 2 + 1) (.int .i64 (y m).j) = cellsL (mixL (m + 1) y x) := by
  match m, hm with
  | 0, _ => simp [cellsL, mixL, hs]
  | 1, _ => simp [cellsL, mixL, hs]
  | 2, _ => simp [cellsL, mixL, hs]
theorem cellsL_set (y x : Nat → Lg) {m : Nat} (hm : m < 3) : ((cellsL (mixL m y x)).setIfInBounds (m * 2) (.int .i64 (y m).s)).setIfInBounds (m * 2 + 1) (.int .i64 (y m).j) = cellsL (mixL (m + 1) y x) := by
  match m, hm with
  | 0, _ => simp [cellsL, mixL]
  | 1, _ => simp [cellsL, mixL]
  | 2, _ => simp [cellsL, mixL]
theorem cellsL_set3 (y x : Nat → Lg) {m : Nat} (hm : m < 3) (u : Value) : (((cellsL (mixL m y x)).setIfInBounds (m * 2) (.int .i64 (y m).s)).setIfInBounds (m * 2 + 1) u).setIfInBounds (m * 2 + 1) (.int .i64 (y m).j) = cellsL (mixL (m + 1) y x) := by
  match m, hm with
  | 0, _ => simp [cellsL, mixL]
  | 1, _ => simp [cellsL, mixL]
  | 2, _ => simp [cellsL, mixL]
/-- The cells of three patterns. -/
def cellsP (f o : Nat → Int) : Array Value := #[.int .i64 (f 0), .int .i64 (o 0), .int .i64 (f 1), .int .i64 (o 1), .int .i64 (f 2), .int .i64 (o 2)]
theorem cellsP_f (f o : Nat → Int) {m : Nat} (hm : m < 3) : (cellsP f o)[m * 2]? = some (.int .i64 (f m)) := by
  match m, hm with
  | 0, _ => rfl
  | 1, _ => rfl
  | 2, _ => rfl
theorem cellsP_o (f o : Nat → Int) {m : Nat} (hm : m < 3) : (cellsP f o)[m * 2 + 1]? = some (.int .i64 (o m)) := by
  match m, hm with
  | 0, _ => rfl
  | 1, _ => rfl
  | 2, _ => rfl
/-- The edges of the legs ahead of m at a count. -/
def Rq.tk (r : Rq) (t : Nat) : Nat → List Ed
  | 0 => []
  | m + 1 => r.tk t m ++ r.e m t
theorem Rq.tk3 (r : Rq) (t : Nat) : r.tk t 3 = r.tick t := by simp [Rq.tk, Rq.tick]
theorem Rq.tk_len (r : Rq) (t m : Nat) : (r.tk t m).length ≤ m := by
  induction m with
  | zero => simp [Rq.tk]
  | succ m ih =>
    have := legE_len r.dead t (m : Nat) (r.at_ m t) (r.want m t)
    simp only [Rq.tk, Rq.e, List.length_append]
    omega
theorem Rq.lok3 {r : Rq} (h : ∀ l, l < 3 → Lok (r.x l)) (l : Nat) (hl : l < 3) (t : Nat) : Lok (r.at_ l t) := by
  induction t with
  | zero => exact h l hl
  | succ t ih => exact ih.step (wantF_cases _ _ _ _)

end Go.Proofs.Ytgnojdiecgfeaaa
