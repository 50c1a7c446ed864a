/- The walk of layer 24's reference's Same; equality of states. -/
import Derived.Test.YtgnojdiecgfeaaaOwnB
import Derived.Test.YtgnojdiecgfeaaaGate
import Derived.Test.YtgnojdiecgfeaaaDraw
import Derived.ChangeKeysEq
namespace Go.Proofs.Ytgnojdiecgfeaaa
open Go.RowKit

theorem Try.infoGLeg : (Try.prog.info? 47).map (fun i => (i.zero, i.size, i.bytes)) = some (some (.agg #[.int .i64 0, .int .i64 0]), 2, 16) := by kernel_rfl
theorem Try.cellsGLeg' : Try.prog.cellsOf 47 = 2 := by kernel_rfl
theorem Try.cellsInt2 : Try.prog.cellsOf 3 = 1 := by kernel_rfl
theorem eq_gleg (a b c d : Int) (w : World) : (Op.equalIn 9999 47 (.agg #[.int .i64 a, .int .i64 b]) (.agg #[.int .i64 c, .int .i64 d])).run Try.prog w = .ok (a == c && b == d) w := by
  have h1 := fun (x y : Int) (w : World) => run_equalIn_int (P := Try.prog) w 9997 3 .i64 .i64 x y Try.underlying3
  simp only [Nat.reduceAdd] at h1
  rw [show (9999 : Nat) = 9998 + 1 from rfl, run_equalIn_struct _ 9998 47 _ _ (by kernel_rfl) (by kernel_rfl)]
  by_cases e0 : a = c <;> by_cases e1 : b = d <;> simp [go_sem, h1, e0, e1]
theorem part2_0 (a b c d e f : Value) (w : World) : (part 47 #[a, b, c, d, e, f] (0 * 2)).run Try.prog w = .ok (.agg #[a, b]) w := by kernel_rfl
theorem part2_1 (a b c d e f : Value) (w : World) : (part 47 #[a, b, c, d, e, f] (1 * 2)).run Try.prog w = .ok (.agg #[c, d]) w := by kernel_rfl
theorem part2_2 (a b c d e f : Value) (w : World) : (part 47 #[a, b, c, d, e, f] (2 * 2)).run Try.prog w = .ok (.agg #[e, f]) w := by kernel_rfl
set_option maxRecDepth 100000 in
theorem eq_legs (x y : Nat → Lg) (w : World) : (binOp .eql 48 (.agg (cellsL x)) (.agg (cellsL y))).run Try.prog w = .ok (.bool (((x 0).s == (y 0).s && ((x 0).j == (y 0).j)) && (((x 1).s == (y 1).s && ((x 1).j == (y 1).j)) && ((x 2).s == (y 2).s && ((x 2).j == (y 2).j))))) w := by
  obtain ⟨i0, hi, hz0, hz1, hz2⟩ := info_parts Try.infoGLeg
  unfold cellsL
  rw [run_eql_struct, show (10000 : Nat) = 9999 + 1 from rfl, run_equalIn_array _ 9999 _ _ Try.underlying48 hi, Try.cellsGLeg']
  have hr : List.range 3 = [0, 1, 2] := by decide
  rw [hr]
  simp only [Op.eqItems]
  rw [Sem.run_bind, part2_0]
  simp only [Result.andThen_ok]
  rw [Sem.run_bind, part2_0]
  simp only [Result.andThen_ok]
  rw [Sem.run_bind, eq_gleg]
  simp only [Result.andThen_ok]
  cases ((x 0).s == (y 0).s && (x 0).j == (y 0).j)
  · simp
  simp only [Bool.not_true, Bool.false_eq_true, if_false]
  rw [Sem.run_bind, part2_1]
  simp only [Result.andThen_ok]
  rw [Sem.run_bind, part2_1]
  simp only [Result.andThen_ok]
  rw [Sem.run_bind, eq_gleg]
  simp only [Result.andThen_ok]
  cases ((x 1).s == (y 1).s && (x 1).j == (y 1).j)
  · simp
  simp only [Bool.not_true, Bool.false_eq_true, if_false]
  rw [Sem.run_bind, part2_2]
  simp only [Result.andThen_ok]
  rw [Sem.run_bind, part2_2]
  simp only [Result.andThen_ok]
  rw [Sem.run_bind, eq_gleg]
  simp only [Result.andThen_ok]
  cases ((x 2).s == (y 2).s && (x 2).j == (y 2).j) <;> simp

theorem neq_six24 (b0 b1 b2 b3 b4 b5 : Bool) (w : World) : (binOp .neq 22 (.agg #[.bool b0, .bool b1, .bool b2, .bool b3, .bool b4, .bool b5]) (.agg #[.bool b0, .bool b1, .bool b2, .bool b3, .bool b4, .bool b5])).run Try.prog w = .ok (.bool false) w := by
  cases b0 <;> cases b1 <;> cases b2 <;> cases b3 <;> cases b4 <;> cases b5 <;> kernel_rfl

set_option maxRecDepth 100000 in
set_option maxHeartbeats 1600000 in
theorem same_walk (per : Int) (b0 b1 b2 b3 b4 b5 : Bool) (A A2 : Option Addr) (n c c2 : Nat) (es : List Ed) (w : World) (hE : Sl w w.heap.size 3 A (es.map Ed.row)) (hE2 : Sl w w.heap.size 3 A2 (es.map Ed.row)) (hn : n = es.length) (hm : n ≤ 1000000) :
    Calls Try.prog 34 #[.agg #[.int .i64 per, .bool b0, .bool b1, .bool b2, .bool b3, .bool b4, .bool b5, .slice A n c], .agg #[.int .i64 per, .bool b0, .bool b1, .bool b2, .bool b3, .bool b4, .bool b5, .slice A2 n c2]] w fun e w' => e = .returned (.bool true) ∧ Below w.heap.size w w' := by
  have HN := Lib.hid hn
  clear hn
  have hb := ((Below.refl w.heap.size w).alloc (Nat.le_refl _) (.cells #[.int .i64 per, .bool b0, .bool b1, .bool b2, .bool b3, .bool b4, .bool b5, .slice A n c] 25)).alloc (by simp) (.cells #[.int .i64 per, .bool b0, .bool b1, .bool b2, .bool b3, .bool b4, .bool b5, .slice A2 n c2] 25)
  have hS := (hE.below hb).more hb.size
  have hS2 := (hE2.below hb).more hb.size
  have hq := neq_six24 b0 b1 b2 b3 b4 b5
  go_enter Try.func34, Try.ntmps34
  go_wp2
  go_loopw [30] (fun i wr => ∃ k : Nat, k ≤ n ∧ i = .int .i64 k ∧ Blk wr w.heap.size 25 #[.int .i64 per, .bool b0, .bool b1, .bool b2, .bool b3, .bool b4, .bool b5, .slice A n c] ∧ Blk wr (w.heap.size + 1) 25 #[.int .i64 per, .bool b0, .bool b1, .bool b2, .bool b3, .bool b4, .bool b5, .slice A2 n c2] ∧ Below w.heap.size w wr) (fun i _ => n - (intOf i).toNat)
  case atStart => exact ⟨0, Nat.zero_le _, rfl, (Blk.new' rfl).alloc _, Blk.new' (by simp), hb⟩
  case round =>
    obtain ⟨k, hk, rfl, hg1, hg2, hbb⟩ := hrel
    obtain ⟨x0, x1, x2, x3, x4, x5, x6, x7⟩ := hg1.c8
    obtain ⟨y0, y1, y2, y3, y4, y5, y6, y7⟩ := hg2.c8
    have hl2 := hg2.lt
    by_cases hlt : k < n
    · have hkl : k < es.length := by have := HN.out; omega
      obtain ⟨⟨et, es1, eo⟩, he⟩ : ∃ e, es[k]? = some e := ⟨_, List.getElem?_eq_getElem hkl⟩
      obtain ⟨ad, p, rfl, hpa, hpb, e0, e1, e2⟩ := (hE.below hbb).three (k := k) (x := .int .i64 et) (y := .int .i64 es1) (z := .bool eo) (by rw [List.getElem?_map, he]; rfl)
      obtain ⟨ad2, p2, rfl, hpa2, hpb2, f0, f1, f2⟩ := (hE2.below hbb).three (k := k) (x := .int .i64 et) (y := .int .i64 es1) (z := .bool eo) (by rw [List.getElem?_map, he]; rfl)
      clear he
      go_wp2
      go_region
      all_goals go_wp2
      all_goals go_roundw
      case rel => exact ⟨k + 1, by omega, by go_num, hg1, hg2, hbb.drew⟩
      case measure => simp [intOf]; omega
    · go_wp2
      go_ret
      exact ⟨rfl, hbb⟩

end Go.Proofs.Ytgnojdiecgfeaaa
