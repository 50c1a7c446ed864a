/- The walk of the statement GatesOff. -/
import Derived.Test.YtgnojdiecgfeaaaOff
import Derived.Test.YtgnojdiecgfeaaaSame24
import Derived.Test.YtgnojdiecgfeaaaAwakeG
import Derived.Test.YtgnojdiecgfeaaaOpenG
import Derived.Deep.RegionHeld3
namespace Go.Proofs.Ytgnojdiecgfeaaa
open Go.RowKit

/-- The state in memory, and what was there before. -/
structure LS (w0 w : World) (ls : Array Value) : Prop where
  s : Blk w w0.heap.size 48 ls
  b : Below w0.heap.size w0 w
theorem LS.drew {w0 w : World} {ls : Array Value} (h : LS w0 w ls) : LS w0 w.drew ls := ⟨h.s, h.b.drew⟩
theorem LS.below {Q : Prop} {w0 w w' : World} {ls : Array Value} (hb : Below w.heap.size w w') (h : LS w0 w ls ∧ Q) : LS w0 w' ls := ⟨h.1.s.below hb h.1.s.lt, h.1.b.trans (hb.mono h.1.b.size)⟩
theorem LS.all {w0 w : World} {a b c d e f : Value} (h : LS w0 w #[a, b, c, d, e, f]) : LS w0 w #[a, b, c, d, e, f] ∧ w.cell? ⟨w0.heap.size, 0, none⟩ = some a ∧ w.cell? ⟨w0.heap.size, 1, none⟩ = some b ∧ w.cell? ⟨w0.heap.size, 2, none⟩ = some c ∧ w.cell? ⟨w0.heap.size, 3, none⟩ = some d ∧ w.cell? ⟨w0.heap.size, 4, none⟩ = some e ∧ w.cell? ⟨w0.heap.size, 5, none⟩ = some f :=
  ⟨h, h.s.c6⟩
theorem LS.b' {Q : Prop} {w0 w : World} {ls : Array Value} (h : LS w0 w ls ∧ Q) : Below w0.heap.size w0 w := h.1.b

theorem eq_fresh (w : World) : (binOp .eql 48 (.agg #[.int .i64 0, .int .i64 4096, .int .i64 0, .int .i64 4096, .int .i64 0, .int .i64 4096]) (.agg #[.int .i64 0, .int .i64 4096, .int .i64 0, .int .i64 4096, .int .i64 0, .int .i64 4096])).run Try.prog w = .ok (.bool true) w := eq_legs fresh fresh w
theorem rfresh_lit (w : World) : Calls Try.prog 47 #[] w fun e w' => e = .returned (.agg #[.int .i64 0, .int .i64 4096, .int .i64 0, .int .i64 4096, .int .i64 0, .int .i64 4096]) ∧ Below w.heap.size w w' := rfresh_walk w

set_option maxRecDepth 100000 in
set_option maxHeartbeats 3200000 in
theorem gatesOff_walk (x : Nat → Lg) (w : World) : Calls Try.prog 13 #[.agg (cellsL x)] w fun e w' => e = .returned (.bool true) ∧ Below w.heap.size w w' := by
  have has : LS w (w.alloc (.cells (cellsL x) 48)) (cellsL x) := ⟨Blk.new _ _ _, (Below.refl w.heap.size w).alloc (Nat.le_refl _) _⟩
  have hq := fun W => eq_legs (offL x) (offL x) W
  have hq2 := eq_fresh
  have h1 := fun W => off_walk x W
  have h2 := fun W => roff_walk x W
  simp only [BEq.rfl, Bool.and_self] at hq
  unfold cellsL at hq h1 h2 has ⊢
  obtain ⟨ga, hga⟩ : ∃ g, (offL x 0).s = g := ⟨_, rfl⟩
  obtain ⟨gb, hgb⟩ : ∃ g, (offL x 0).j = g := ⟨_, rfl⟩
  obtain ⟨gc, hgc⟩ : ∃ g, (offL x 1).s = g := ⟨_, rfl⟩
  obtain ⟨gd, hgd⟩ : ∃ g, (offL x 1).j = g := ⟨_, rfl⟩
  obtain ⟨ge, hge⟩ : ∃ g, (offL x 2).s = g := ⟨_, rfl⟩
  obtain ⟨gf, hgf⟩ : ∃ g, (offL x 2).j = g := ⟨_, rfl⟩
  simp only [hga, hgb, hgc, hgd, hge, hgf] at hq h1 h2
  have H1 := hide h1
  have H2 := hide h2
  clear h1 h2 hga hgb hgc hgd hge hgf
  go_enter Try.func13, Try.ntmps13
  go_wp2
  go_region_held3 (fun w' => LS w w' #[.int .i64 (x 0).s, .int .i64 (x 0).j, .int .i64 (x 1).s, .int .i64 (x 1).j, .int .i64 (x 2).s, .int .i64 (x 2).j] ∧ w'.cell? ⟨w.heap.size, 0, none⟩ = some (.int .i64 (x 0).s) ∧ w'.cell? ⟨w.heap.size, 1, none⟩ = some (.int .i64 (x 0).j) ∧ w'.cell? ⟨w.heap.size, 2, none⟩ = some (.int .i64 (x 1).s) ∧ w'.cell? ⟨w.heap.size, 3, none⟩ = some (.int .i64 (x 1).j) ∧ w'.cell? ⟨w.heap.size, 4, none⟩ = some (.int .i64 (x 2).s) ∧ w'.cell? ⟨w.heap.size, 5, none⟩ = some (.int .i64 (x 2).j)) (first | exact LS.all has | exact LS.all (LS.drew has) | exact LS.all (LS.below (by assumption) (by assumption)))
    (first | (go_at_call 31; refine (awakeG_walk _).mono ?_; rintro e w' ⟨rfl, hbq⟩) | (go_at_call 45; refine ((unhide H1) _).mono ?_; rintro e w' ⟨rfl, hbq⟩) | (go_at_call 46; refine ((unhide H2) _).mono ?_; rintro e w' ⟨rfl, hbq⟩) | (go_at_call 38; refine (fresh_lit _).mono ?_; rintro e w' ⟨rfl, hbq⟩) | (go_at_call 47; refine (rfresh_lit _).mono ?_; rintro e w' ⟨rfl, hbq⟩))
  go_wp2
  go_ret
  exact ⟨rfl, LS.b' (by assumption)⟩

end Go.Proofs.Ytgnojdiecgfeaaa
