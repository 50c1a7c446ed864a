/- The walk of the statement GatesChecks. -/
import Derived.Test.YtgnojdiecgfeaaaPlainP
import Derived.Test.YtgnojdiecgfeaaaRSafe
import Derived.Test.YtgnojdiecgfeaaaSafeBad
import Derived.Test.YtgnojdiecgfeaaaRTimes
import Derived.Test.YtgnojdiecgfeaaaSame24
import Derived.ChangeKeysEq
namespace Go.Proofs.Ytgnojdiecgfeaaa
open Go.RowKit

theorem infoI3 : (Try.prog.info? 26).map (fun i => (i.zero, i.size, i.bytes)) = some (some (.agg #[.int .i64 0, .int .i64 0, .int .i64 0]), 3, 24) := by kernel_rfl
theorem cellsI3 : Try.prog.cellsOf 26 = 3 := by kernel_rfl
theorem infoI1 : (Try.prog.info? 3).map (fun i => (i.zero, i.size, i.bytes)) = some (some (.int .i64 0), 1, 8) := by kernel_rfl
theorem cellsI1 : Try.prog.cellsOf 3 = 1 := by kernel_rfl
theorem eq_i3 (a b c : Int) (w : World) : (Op.equalIn 9999 26 (.agg #[.int .i64 a, .int .i64 b, .int .i64 c]) (.agg #[.int .i64 a, .int .i64 b, .int .i64 c])).run Try.prog w = .ok true w := by
  obtain ⟨i0, hi, hz0, hz1, hz2⟩ := info_parts infoI1
  rw [show (9999 : Nat) = 9998 + 1 from rfl, run_equalIn_array _ 9998 _ _ Try.underlying26 hi, cellsI1]
  have h1 := fun (x y : Int) (w : World) => run_equalIn_int (P := Try.prog) w 9997 3 .i64 .i64 x y Try.underlying3
  simp only [Nat.reduceAdd] at h1
  have hr : List.range 3 = [0, 1, 2] := by decide
  rw [hr]
  simp [Op.eqItems, go_sem, h1]
theorem part3_0 (a b c d e f g h i : Value) (w : World) : (part 26 #[a, b, c, d, e, f, g, h, i] (0 * 3)).run Try.prog w = .ok (.agg #[a, b, c]) w := by kernel_rfl
theorem part3_1 (a b c d e f g h i : Value) (w : World) : (part 26 #[a, b, c, d, e, f, g, h, i] (1 * 3)).run Try.prog w = .ok (.agg #[d, e, f]) w := by kernel_rfl
theorem part3_2 (a b c d e f g h i : Value) (w : World) : (part 26 #[a, b, c, d, e, f, g, h, i] (2 * 3)).run Try.prog w = .ok (.agg #[g, h, i]) w := by kernel_rfl
set_option maxRecDepth 100000 in
theorem eq_33 (q0 q1 q2 q3 q4 q5 q6 q7 q8 : Int) (w : World) : (binOp .eql 66 (.agg #[.int .i64 q0, .int .i64 q1, .int .i64 q2, .int .i64 q3, .int .i64 q4, .int .i64 q5, .int .i64 q6, .int .i64 q7, .int .i64 q8]) (.agg #[.int .i64 q0, .int .i64 q1, .int .i64 q2, .int .i64 q3, .int .i64 q4, .int .i64 q5, .int .i64 q6, .int .i64 q7, .int .i64 q8])).run Try.prog w = .ok (.bool true) w := by
  obtain ⟨i0, hi, hz0, hz1, hz2⟩ := info_parts infoI3
  rw [run_eql_struct, show (10000 : Nat) = 9999 + 1 from rfl, run_equalIn_array _ 9999 _ _ Try.underlying66 hi, cellsI3]
  have hr : List.range 3 = [0, 1, 2] := by decide
  rw [hr]
  simp only [Op.eqItems]
  rw [Sem.run_bind, part3_0]
  simp only [Result.andThen_ok]
  rw [Sem.run_bind, part3_0]
  simp only [Result.andThen_ok]
  rw [Sem.run_bind, eq_i3]
  simp only [Result.andThen_ok]
  simp only [Bool.not_true, Bool.false_eq_true, if_false]
  rw [Sem.run_bind, part3_1]
  simp only [Result.andThen_ok]
  rw [Sem.run_bind, part3_1]
  simp only [Result.andThen_ok]
  rw [Sem.run_bind, eq_i3]
  simp only [Result.andThen_ok]
  simp only [Bool.not_true, Bool.false_eq_true, if_false]
  rw [Sem.run_bind, part3_2]
  simp only [Result.andThen_ok]
  rw [Sem.run_bind, part3_2]
  simp only [Result.andThen_ok]
  rw [Sem.run_bind, eq_i3]
  simp
theorem ends_same {per : Int} {σ : Sf} (h : Nev σ.is) (l : Nat) (hl : l < 3) : rfEnd per σ l = sfEnd per σ l := by
  have hn := h.2 l hl
  unfold rfEnd sfEnd
  generalize σ.is.getD (2 * l) false = u at hn ⊢
  generalize σ.is.getD (2 * l + 1) false = v at hn ⊢
  cases u <;> cases v <;> first | rfl | exact absurd ⟨rfl, rfl⟩ hn
/-- What the two checkers say of any signals. -/
theorem both_safe (x : Nat → Lg) (per dead : Int) (b0 b1 b2 b3 b4 b5 : Bool) (A : Option Addr) (n c : Nat) (es : List Ed) (hn : n = es.length) (hm : n ≤ 1000000) :
    ∃ (ok : Bool) (t : Nat → Lg) (m : Int),
      (∀ (W : World), Sl W W.heap.size 3 A (es.map Ed.row) → Calls Try.prog 52 #[.agg #[.int .i64 ((x 0).s), .int .i64 ((x 0).j), .int .i64 ((x 1).s), .int .i64 ((x 1).j), .int .i64 ((x 2).s), .int .i64 ((x 2).j)], .agg #[.int .i64 per, .bool b0, .bool b1, .bool b2, .bool b3, .bool b4, .bool b5, .slice A n c], .int .i64 dead] W fun e w' => e = .returned (.tuple #[.bool ok, .agg #[.int .i64 ((t 0).s), .int .i64 ((t 0).j), .int .i64 ((t 1).s), .int .i64 ((t 1).j), .int .i64 ((t 2).s), .int .i64 ((t 2).j)], errV m]) ∧ Below W.heap.size W w') ∧
      (∀ (W : World), Sl W W.heap.size 3 A (es.map Ed.row) → Calls Try.prog 53 #[.agg #[.int .i64 ((x 0).s), .int .i64 ((x 0).j), .int .i64 ((x 1).s), .int .i64 ((x 1).j), .int .i64 ((x 2).s), .int .i64 ((x 2).j)], .agg #[.int .i64 per, .bool b0, .bool b1, .bool b2, .bool b3, .bool b4, .bool b5, .slice A n c], .int .i64 dead] W fun e w' => e = .returned (.tuple #[.bool ok, .agg #[.int .i64 ((t 0).s), .int .i64 ((t 0).j), .int .i64 ((t 1).s), .int .i64 ((t 1).j), .int .i64 ((t 2).s), .int .i64 ((t 2).j)], .int .i64 m]) ∧ Below W.heap.size W w') := by
  rcases Bool.eq_false_or_eq_true (rngOk (x 0) (x 1) (x 2) per dead) with hr | hr
  · rcases Bool.eq_false_or_eq_true (onSame x b0 b1 b2 b3 b4 b5) with ho | ho
    · rcases Bool.eq_false_or_eq_true (shape per es) with hs | hs
      · have hon := onSame_eq ho
        rcases hq : sfR dead (some (sf0 x)) es with _ | σ
        · refine ⟨false, fun _ => ⟨0, 0⟩, 0, fun W hW => ?_, fun W hW => ?_⟩
          · refine (safe_walk x per dead b0 b1 b2 b3 b4 b5 A n c es W hW hn hm hon hr hs).mono ?_
            rintro e w' ⟨h1, _, h3⟩
            exact ⟨h1 hq, h3⟩
          · refine (rsafe_walk x per dead b0 b1 b2 b3 b4 b5 A n c es W hW hn hm hon hr hs).mono ?_
            rintro e w' ⟨h1, _, h3⟩
            exact ⟨h1 hq, h3⟩
        · have hval : Valid per es := (valid_iff _ _).1 hs
          have hnev : Nev σ.is := sfR_nev (nev_onL x) (fun e he => by
            obtain ⟨k, hk, rfl⟩ := List.getElem_of_mem he
            have := hval.ins k hk
            exact ⟨this.2.2.1, this.2.2.2⟩) hq
          refine ⟨true, sfEnd per σ, 0, fun W hW => ?_, fun W hW => ?_⟩
          · refine (safe_walk x per dead b0 b1 b2 b3 b4 b5 A n c es W hW hn hm hon hr hs).mono ?_
            rintro e w' ⟨_, h2, h3⟩
            exact ⟨h2 _ hq, h3⟩
          · refine (rsafe_walk x per dead b0 b1 b2 b3 b4 b5 A n c es W hW hn hm hon hr hs).mono ?_
            rintro e w' ⟨_, h2, h3⟩
            have h4 := h2 _ hq
            rw [ends_same hnev 0 (by omega), ends_same hnev 1 (by omega), ends_same hnev 2 (by omega)] at h4
            exact ⟨h4, h3⟩
      · exact ⟨false, fun _ => ⟨0, 0⟩, 11, fun W hW => safe_shape x per dead b0 b1 b2 b3 b4 b5 A n c es W hW hn hm hr (.inr hs), fun W hW => rsafe_shape x per dead b0 b1 b2 b3 b4 b5 A n c es W hW hn hm hr (.inr hs)⟩
    · exact ⟨false, fun _ => ⟨0, 0⟩, 11, fun W hW => safe_shape x per dead b0 b1 b2 b3 b4 b5 A n c es W hW hn hm hr (.inl ho), fun W hW => rsafe_shape x per dead b0 b1 b2 b3 b4 b5 A n c es W hW hn hm hr (.inl ho)⟩
  · exact ⟨false, fun _ => ⟨0, 0⟩, 3, fun W _ => safe_range x per dead b0 b1 b2 b3 b4 b5 A n c W hr, fun W _ => rsafe_range x per dead b0 b1 b2 b3 b4 b5 A n c W hr⟩

set_option maxRecDepth 100000 in
set_option maxHeartbeats 6400000 in
theorem gatesChecks_walk (x : Nat → Lg) (per dead : Int) (b0 b1 b2 b3 b4 b5 : Bool) (A : Option Addr) (n c : Nat) (es : List Ed) (w : World) (hE : Sl w w.heap.size 3 A (es.map Ed.row)) (hn : n = es.length) :
    Calls Try.prog 16 #[.agg (cellsL x), .agg #[.int .i64 per, .bool b0, .bool b1, .bool b2, .bool b3, .bool b4, .bool b5, .slice A n c], .int .i64 dead] w fun e w' => e = .returned (.bool true) ∧ Below w.heap.size w w' := by
  have HN := Lib.hid hn
  clear hn
  have g0 := (Blk.new w 48 (cellsL x)).alloc (.cells #[.int .i64 per, .bool b0, .bool b1, .bool b2, .bool b3, .bool b4, .bool b5, .slice A n c] 25)
  have g1 := Blk.new' (w := w.alloc (.cells (cellsL x) 48)) (t := 25) (cs := #[.int .i64 per, .bool b0, .bool b1, .bool b2, .bool b3, .bool b4, .bool b5, .slice A n c]) (g := w.heap.size + 1) (by simp)
  have hb0 := ((Below.refl w.heap.size w).alloc (Nat.le_refl _) (.cells (cellsL x) 48)).alloc (by simp) (.cells #[.int .i64 per, .bool b0, .bool b1, .bool b2, .bool b3, .bool b4, .bool b5, .slice A n c] 25)
  have hS0 : Sl ((w.alloc (.cells (cellsL x) 48)).alloc (.cells #[.int .i64 per, .bool b0, .bool b1, .bool b2, .bool b3, .bool b4, .bool b5, .slice A n c] 25)) ((w.alloc (.cells (cellsL x) 48)).alloc (.cells #[.int .i64 per, .bool b0, .bool b1, .bool b2, .bool b3, .bool b4, .bool b5, .slice A n c] 25)).heap.size 3 A (es.map Ed.row) := ((hE.alloc (Nat.le_refl _) _).alloc (by simp) _).more (by simp <;> omega)
  unfold cellsL at g0 g1 hb0 hS0 ⊢
  by_cases hbig : 10000 < n
  · go_enter Try.func16, Try.ntmps16
    go_wp2_with fail
    refine (awakeG_walk _).mono ?_
    rintro e w1 ⟨rfl, hb1⟩
    have hb2 := hb0.trans (hb1.mono hb0.size)
    have s1 := g1.below hb1 g1.lt
    obtain ⟨y0, y1, y2, y3, y4, y5, y6, y7⟩ := s1.c8
    go_wp2_with fail
    refine (awakeG_walk _).mono ?_
    rintro e w2 ⟨rfl, hb3⟩
    have hb4 := hb2.trans (hb3.mono hb2.size)
    go_wp2
    go_ret
    exact ⟨rfl, hb4⟩
  · obtain ⟨ok, t, m, hsa, hrs⟩ := both_safe x per dead b0 b1 b2 b3 b4 b5 A n c es HN.out (by omega)
    have hti := fun (W : World) (hW : Sl W W.heap.size 3 A (es.map Ed.row)) => times_walk per b0 b1 b2 b3 b4 b5 A n c es W hW HN.out (by omega)
    have hrt := fun (W : World) (hW : Sl W W.heap.size 3 A (es.map Ed.row)) => rtimes_walk per b0 b1 b2 b3 b4 b5 A n c es W hW HN.out (by omega)
    obtain ⟨q0, eq0⟩ : ∃ q, tms per [b0, b1, b2, b3, b4, b5] es 0 0 = q := ⟨_, rfl⟩
    obtain ⟨q1, eq1⟩ : ∃ q, tms per [b0, b1, b2, b3, b4, b5] es 0 1 = q := ⟨_, rfl⟩
    obtain ⟨q2, eq2⟩ : ∃ q, tms per [b0, b1, b2, b3, b4, b5] es 0 2 = q := ⟨_, rfl⟩
    obtain ⟨q3, eq3⟩ : ∃ q, tms per [b0, b1, b2, b3, b4, b5] es 1 0 = q := ⟨_, rfl⟩
    obtain ⟨q4, eq4⟩ : ∃ q, tms per [b0, b1, b2, b3, b4, b5] es 1 1 = q := ⟨_, rfl⟩
    obtain ⟨q5, eq5⟩ : ∃ q, tms per [b0, b1, b2, b3, b4, b5] es 1 2 = q := ⟨_, rfl⟩
    obtain ⟨q6, eq6⟩ : ∃ q, tms per [b0, b1, b2, b3, b4, b5] es 2 0 = q := ⟨_, rfl⟩
    obtain ⟨q7, eq7⟩ : ∃ q, tms per [b0, b1, b2, b3, b4, b5] es 2 1 = q := ⟨_, rfl⟩
    obtain ⟨q8, eq8⟩ : ∃ q, tms per [b0, b1, b2, b3, b4, b5] es 2 2 = q := ⟨_, rfl⟩
    obtain ⟨f, ef⟩ : ∃ q, chk per es = q := ⟨_, rfl⟩
    simp only [eq0, eq1, eq2, eq3, eq4, eq5, eq6, eq7, eq8, ef] at hti hrt
    have hq1 := eq_legs t t
    simp only [beq_self_eq_true, Bool.and_self] at hq1
    unfold cellsL at hq1
    have hq2 := eq_33 q0 q1 q2 q3 q4 q5 q6 q7 q8
    obtain ⟨em, hem⟩ : ∃ v, errV m = v := ⟨_, rfl⟩
    obtain ⟨ef2, hef⟩ : ∃ v, errV f = v := ⟨_, rfl⟩
    have hnm := num_any m
    have hnf := num_any f
    rw [hem] at hnm
    simp only [hem] at hsa
    rw [hef] at hnf
    simp only [hef] at hti
    have HSA := hide hsa
    have HRS := hide hrs
    have HTI := hide hti
    have HRT := hide hrt
    have HNM := hide hnm
    have HNF := hide hnf
    clear hsa hrs hti hrt hnm hnf eq0 eq1 eq2 eq3 eq4 eq5 eq6 eq7 eq8 ef hem hef
    go_enter Try.func16, Try.ntmps16
    go_wp2_with fail
    refine (awakeG_walk _).mono ?_
    rintro e w1 ⟨rfl, hb1⟩
    have s0 := g0.below hb1 g0.lt
    have s1 := g1.below hb1 g1.lt
    have sb := hb0.trans (hb1.mono hb0.size)
    have sE := (hS0.below hb1).more hb1.size
    clear g0 g1 hb0 hS0 hb1
    obtain ⟨x0, x1, x2, x3, x4, x5⟩ := s0.c6
    obtain ⟨y0, y1, y2, y3, y4, y5, y6, y7⟩ := s1.c8
    go_wp2_with fail
    refine ((unhide HSA) _ sE).mono ?_
    rintro e w2 ⟨rfl, hb2⟩
    have r0 := s0.below hb2 s0.lt
    have r1 := s1.below hb2 s1.lt
    have rb := sb.trans (hb2.mono sb.size)
    have rE := (sE.below hb2).more hb2.size
    clear s0 s1 sb sE hb2 x0 x1 x2 x3 x4 x5 y0 y1 y2 y3 y4 y5 y6 y7
    have l0 := r0.lt
    have l1 := r1.lt
    have s0 := r0.alloc (.cells #[.int .i64 ((t 0).s), .int .i64 ((t 0).j), .int .i64 ((t 1).s), .int .i64 ((t 1).j), .int .i64 ((t 2).s), .int .i64 ((t 2).j)] 48)
    have s1 := r1.alloc (.cells #[.int .i64 ((t 0).s), .int .i64 ((t 0).j), .int .i64 ((t 1).s), .int .i64 ((t 1).j), .int .i64 ((t 2).s), .int .i64 ((t 2).j)] 48)
    have sT := Blk.new w2 48 #[.int .i64 ((t 0).s), .int .i64 ((t 0).j), .int .i64 ((t 1).s), .int .i64 ((t 1).j), .int .i64 ((t 2).s), .int .i64 ((t 2).j)]
    have sb := rb.alloc rb.size (.cells #[.int .i64 ((t 0).s), .int .i64 ((t 0).j), .int .i64 ((t 1).s), .int .i64 ((t 1).j), .int .i64 ((t 2).s), .int .i64 ((t 2).j)] 48)
    have sE : Sl (w2.alloc (.cells #[.int .i64 ((t 0).s), .int .i64 ((t 0).j), .int .i64 ((t 1).s), .int .i64 ((t 1).j), .int .i64 ((t 2).s), .int .i64 ((t 2).j)] 48)) (w2.alloc (.cells #[.int .i64 ((t 0).s), .int .i64 ((t 0).j), .int .i64 ((t 1).s), .int .i64 ((t 1).j), .int .i64 ((t 2).s), .int .i64 ((t 2).j)] 48)).heap.size 3 A (es.map Ed.row) := (rE.alloc (Nat.le_refl _) (.cells #[.int .i64 ((t 0).s), .int .i64 ((t 0).j), .int .i64 ((t 1).s), .int .i64 ((t 1).j), .int .i64 ((t 2).s), .int .i64 ((t 2).j)] 48)).more (by simp)
    obtain ⟨x0, x1, x2, x3, x4, x5⟩ := r0.c6
    obtain ⟨y0, y1, y2, y3, y4, y5, y6, y7⟩ := r1.c8
    go_wp2_with fail
    refine ((unhide HRS) _ sE).mono ?_
    rintro e w3 ⟨rfl, hb3⟩
    clear r0 r1 rb rE x0 x1 x2 x3 x4 x5 y0 y1 y2 y3 y4 y5 y6 y7 l0 l1
    have r1 := s1.below hb3 s1.lt
    have rT := sT.below hb3 sT.lt
    have rb := sb.trans (hb3.mono sb.size)
    have rE := (sE.below hb3).more hb3.size
    clear s0 s1 sT sb sE hb3
    have l1 := r1.lt
    have l2 := rT.lt
    have s1 := r1.alloc (.cells #[.int .i64 ((t 0).s), .int .i64 ((t 0).j), .int .i64 ((t 1).s), .int .i64 ((t 1).j), .int .i64 ((t 2).s), .int .i64 ((t 2).j)] 48)
    have sT := rT.alloc (.cells #[.int .i64 ((t 0).s), .int .i64 ((t 0).j), .int .i64 ((t 1).s), .int .i64 ((t 1).j), .int .i64 ((t 2).s), .int .i64 ((t 2).j)] 48)
    have sU := Blk.new w3 48 #[.int .i64 ((t 0).s), .int .i64 ((t 0).j), .int .i64 ((t 1).s), .int .i64 ((t 1).j), .int .i64 ((t 2).s), .int .i64 ((t 2).j)]
    have sb := rb.alloc rb.size (.cells #[.int .i64 ((t 0).s), .int .i64 ((t 0).j), .int .i64 ((t 1).s), .int .i64 ((t 1).j), .int .i64 ((t 2).s), .int .i64 ((t 2).j)] 48)
    have sE : Sl (w3.alloc (.cells #[.int .i64 ((t 0).s), .int .i64 ((t 0).j), .int .i64 ((t 1).s), .int .i64 ((t 1).j), .int .i64 ((t 2).s), .int .i64 ((t 2).j)] 48)) (w3.alloc (.cells #[.int .i64 ((t 0).s), .int .i64 ((t 0).j), .int .i64 ((t 1).s), .int .i64 ((t 1).j), .int .i64 ((t 2).s), .int .i64 ((t 2).j)] 48)).heap.size 3 A (es.map Ed.row) := (rE.alloc (Nat.le_refl _) (.cells #[.int .i64 ((t 0).s), .int .i64 ((t 0).j), .int .i64 ((t 1).s), .int .i64 ((t 1).j), .int .i64 ((t 2).s), .int .i64 ((t 2).j)] 48)).more (by simp)
    obtain ⟨y0, y1, y2, y3, y4, y5, y6, y7⟩ := r1.c8
    go_wp2_with fail
    refine ((unhide HTI) _ sE).mono ?_
    rintro e w4 ⟨rfl, hb4⟩
    clear r1 rT rb rE y0 y1 y2 y3 y4 y5 y6 y7 l1 l2
    have r1 := s1.below hb4 s1.lt
    have rT := sT.below hb4 sT.lt
    have rU := sU.below hb4 sU.lt
    have rb := sb.trans (hb4.mono sb.size)
    have rE := (sE.below hb4).more hb4.size
    clear s1 sT sU sb sE hb4
    have l1 := r1.lt
    have l2 := rT.lt
    have l3 := rU.lt
    have s1 := r1.alloc (.cells #[.int .i64 q0, .int .i64 q1, .int .i64 q2, .int .i64 q3, .int .i64 q4, .int .i64 q5, .int .i64 q6, .int .i64 q7, .int .i64 q8] 66)
    have sT := rT.alloc (.cells #[.int .i64 q0, .int .i64 q1, .int .i64 q2, .int .i64 q3, .int .i64 q4, .int .i64 q5, .int .i64 q6, .int .i64 q7, .int .i64 q8] 66)
    have sU := rU.alloc (.cells #[.int .i64 q0, .int .i64 q1, .int .i64 q2, .int .i64 q3, .int .i64 q4, .int .i64 q5, .int .i64 q6, .int .i64 q7, .int .i64 q8] 66)
    have sV := Blk.new w4 66 #[.int .i64 q0, .int .i64 q1, .int .i64 q2, .int .i64 q3, .int .i64 q4, .int .i64 q5, .int .i64 q6, .int .i64 q7, .int .i64 q8]
    have sb := rb.alloc rb.size (.cells #[.int .i64 q0, .int .i64 q1, .int .i64 q2, .int .i64 q3, .int .i64 q4, .int .i64 q5, .int .i64 q6, .int .i64 q7, .int .i64 q8] 66)
    have sE : Sl (w4.alloc (.cells #[.int .i64 q0, .int .i64 q1, .int .i64 q2, .int .i64 q3, .int .i64 q4, .int .i64 q5, .int .i64 q6, .int .i64 q7, .int .i64 q8] 66)) (w4.alloc (.cells #[.int .i64 q0, .int .i64 q1, .int .i64 q2, .int .i64 q3, .int .i64 q4, .int .i64 q5, .int .i64 q6, .int .i64 q7, .int .i64 q8] 66)).heap.size 3 A (es.map Ed.row) := (rE.alloc (Nat.le_refl _) (.cells #[.int .i64 q0, .int .i64 q1, .int .i64 q2, .int .i64 q3, .int .i64 q4, .int .i64 q5, .int .i64 q6, .int .i64 q7, .int .i64 q8] 66)).more (by simp)
    obtain ⟨y0, y1, y2, y3, y4, y5, y6, y7⟩ := r1.c8
    go_wp2_with fail
    refine ((unhide HRT) _ sE).mono ?_
    rintro e w5 ⟨rfl, hb5⟩
    clear r1 rT rU rb rE y0 y1 y2 y3 y4 y5 y6 y7 l1 l2 l3
    have rT := sT.below hb5 sT.lt
    have rU := sU.below hb5 sU.lt
    have rV := sV.below hb5 sV.lt
    have rb := sb.trans (hb5.mono sb.size)
    clear s1 sT sU sV sb sE hb5
    have l2 := rT.lt
    have l3 := rU.lt
    have l4 := rV.lt
    have rb2 := rb.alloc rb.size (.cells #[.int .i64 q0, .int .i64 q1, .int .i64 q2, .int .i64 q3, .int .i64 q4, .int .i64 q5, .int .i64 q6, .int .i64 q7, .int .i64 q8] 66)
    obtain ⟨x0, x1, x2, x3, x4, x5⟩ := rT.c6
    obtain ⟨z0, z1, z2, z3, z4, z5⟩ := rU.c6
    obtain ⟨y0, y1, y2, y3, y4, y5, y6, y7, y8⟩ := rV.c9
    go_wp2_with fail
    refine ((unhide HNM) _).mono ?_
    rintro e w6 ⟨rfl, rfl⟩
    go_wp2_with fail
    refine ((unhide HNF) _).mono ?_
    rintro e w7 ⟨rfl, rfl⟩
    go_wp2
    go_ret
    exact ⟨by simp, rb2⟩

end Go.Proofs.Ytgnojdiecgfeaaa
