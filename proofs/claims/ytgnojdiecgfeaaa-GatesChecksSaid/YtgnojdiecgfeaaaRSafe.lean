/- The walk of the reference's Safe of layer 24, where the state, the period and the edges have their form. -/
import Derived.Test.YtgnojdiecgfeaaaSafe
import Derived.Test.YtgnojdiecgfeaaaRRun
import Derived.Test.YtgnojdiecgfeaaaEdges24
namespace Go.Proofs.Ytgnojdiecgfeaaa
open Go.RowKit

/-- The state behind the signals, as the reference has it. -/
def rfEnd (per : Int) (σ : Sf) : Nat → Lg := fun l => ⟨if σ.is.getD (2 * l + 1) false = true then 1 else if σ.is.getD (2 * l) false = true then 2 else 0, min (per - σ.la l) 4096⟩

set_option maxRecDepth 100000 in
set_option maxHeartbeats 6400000 in
theorem rsafe_walk (x : Nat → Lg) (per dead : Int) (b0 b1 b2 b3 b4 b5 : Bool) (A : Option Addr) (n c : Nat) (es : List Ed) (w : World) (hE : Sl w w.heap.size 3 A (es.map Ed.row)) (hn : n = es.length) (hm : n ≤ 1000000) (hon : onL x = [b0, b1, b2, b3, b4, b5])
    (hr : rngOk (x 0) (x 1) (x 2) per dead = true) (hsh : shape per es = true) :
    Calls Try.prog 53 #[.agg #[.int .i64 ((x 0).s), .int .i64 ((x 0).j), .int .i64 ((x 1).s), .int .i64 ((x 1).j), .int .i64 ((x 2).s), .int .i64 ((x 2).j)], .agg #[.int .i64 per, .bool b0, .bool b1, .bool b2, .bool b3, .bool b4, .bool b5, .slice A n c], .int .i64 dead] w fun e w' =>
      (sfR dead (some (sf0 x)) es = none → e = .returned (.tuple #[.bool false, .agg #[.int .i64 0, .int .i64 0, .int .i64 0, .int .i64 0, .int .i64 0, .int .i64 0], .int .i64 0])) ∧ (∀ σ, sfR dead (some (sf0 x)) es = some σ → e = .returned (.tuple #[.bool true, .agg #[.int .i64 (((rfEnd per σ) 0).s), .int .i64 (((rfEnd per σ) 0).j), .int .i64 (((rfEnd per σ) 1).s), .int .i64 (((rfEnd per σ) 1).j), .int .i64 (((rfEnd per σ) 2).s), .int .i64 (((rfEnd per σ) 2).j)], .int .i64 0])) ∧ Below w.heap.size w w' := by
  have HN := Lib.hid hn
  clear hn
  have hov := fun W => ron_walk (x 0).s (x 0).j (x 1).s (x 1).j (x 2).s (x 2).j W
  have hon2 := hon
  simp only [onL, List.cons.injEq, and_true] at hon2
  obtain ⟨o0, o1, o2, o3, o4, o5⟩ := hon2
  rw [o0, o1, o2, o3, o4, o5] at hov
  simp only [rngOk, perOk, deadOk, Bool.and_eq_true, decide_eq_true_eq] at hr
  obtain ⟨⟨⟨⟨l0, l1⟩, l2⟩, hp1, hp2⟩, hd1, hd2⟩ := hr
  have hk0 := legOk_lok l0
  have hk1 := legOk_lok l1
  have hk2 := legOk_lok l2
  have hs0' := hk0.s
  have hs1' := hk1.s
  have hs2' := hk2.s
  have hj0 := hk0.j0
  have hj0' := hk0.j1
  have hj1 := hk1.j0
  have hj1' := hk1.j1
  have hj2 := hk2.j0
  have hj2' := hk2.j1
  have hrg := fun W => rranges_walk (x 0).s (x 0).j (x 1).s (x 1).j (x 2).s (x 2).j per dead W (by omega) (by omega) hj0 hj0' (by omega) (by omega) hj1 hj1' (by omega) (by omega) hj2 hj2' hp1 hp2 hd1 hd2
  have hed := fun (W : World) (h : Sl W W.heap.size 3 A (es.map Ed.row)) => edges24_walk per b0 b1 b2 b3 b4 b5 A n c es W h HN.out hm
  rw [show shp per es = 0 from if_pos hsh] at hed
  have hval : Valid per es := (valid_iff _ _).1 hsh
  have HRG := hide hrg
  have HOV := hide hov
  have HED := hide hed
  have HVAL := Lib.hid hval
  have HON := Lib.hid hon
  have hnq := neq_six_s b0 b1 b2 b3 b4 b5
  clear hrg hov hed hval hon o0 o1 o2 o3 o4 o5 l0 l1 l2 hk0 hk1 hk2 hsh hs0' hs1' hs2'
  have ha0 : SS w (((w.alloc (.cells #[.int .i64 ((x 0).s), .int .i64 ((x 0).j), .int .i64 ((x 1).s), .int .i64 ((x 1).j), .int .i64 ((x 2).s), .int .i64 ((x 2).j)] 48)).alloc (.cells #[.int .i64 per, .bool b0, .bool b1, .bool b2, .bool b3, .bool b4, .bool b5, .slice A n c] 25)).alloc (.cells #[.int .i64 0, .int .i64 0, .int .i64 0, .int .i64 0, .int .i64 0, .int .i64 0] 48)) #[.int .i64 ((x 0).s), .int .i64 ((x 0).j), .int .i64 ((x 1).s), .int .i64 ((x 1).j), .int .i64 ((x 2).s), .int .i64 ((x 2).j)] #[.int .i64 per, .bool b0, .bool b1, .bool b2, .bool b3, .bool b4, .bool b5, .slice A n c] :=
    ⟨((Blk.new _ _ _).alloc _).alloc _, (Blk.new' (by simp)).alloc _, Blk.new' (by simp), (((Below.refl w.heap.size w).alloc (Nat.le_refl _) _).alloc (by simp) _).alloc (by simp <;> omega) _⟩
  obtain ⟨x0, x1, x2, x3, x4, x5⟩ := ha0.s.c6
  go_enter Try.func53, Try.ntmps53
  go_wp2_with fail
  refine ((unhide HRG) _).mono ?_
  rintro e w1 ⟨rfl, hb1⟩
  have hv0 := SS.below hb1 ha0
  clear ha0 hb1 x0 x1 x2 x3 x4 x5
  have l1 := hv0.s.lt
  have l2 := hv0.g.lt
  have l3 := hv0.r.lt
  obtain ⟨y0, y1, y2, y3, y4, y5, y6, y7⟩ := hv0.g.c8
  go_wp2_with fail
  refine ((unhide HED) _ ((hE.below hv0.b).more hv0.b.size)).mono ?_
  rintro e w2 ⟨rfl, hb2⟩
  have hv1 := SS.below hb2 hv0
  clear hv0 hb2 y0 y1 y2 y3 y4 y5 y6 y7 l1 l2 l3
  have l1 := hv1.s.lt
  have l2 := hv1.g.lt
  have l3 := hv1.r.lt
  obtain ⟨x0, x1, x2, x3, x4, x5⟩ := hv1.s.c6
  obtain ⟨y0, y1, y2, y3, y4, y5, y6, y7⟩ := hv1.g.c8
  go_wp2
  go_cut [39] from 31 to 40 (fun u39 wx => u39 = .bool false ∧ SS w wx #[.int .i64 ((x 0).s), .int .i64 ((x 0).j), .int .i64 ((x 1).s), .int .i64 ((x 1).j), .int .i64 ((x 2).s), .int .i64 ((x 2).j)] #[.int .i64 per, .bool b0, .bool b1, .bool b2, .bool b3, .bool b4, .bool b5, .slice A n c])
  case first =>
    go_region_held3 (fun w' => SS w w' #[.int .i64 ((x 0).s), .int .i64 ((x 0).j), .int .i64 ((x 1).s), .int .i64 ((x 1).j), .int .i64 ((x 2).s), .int .i64 ((x 2).j)] #[.int .i64 per, .bool b0, .bool b1, .bool b2, .bool b3, .bool b4, .bool b5, .slice A n c] ∧ w'.cell? ⟨w.heap.size, 0, none⟩ = some (.int .i64 ((x 0).s)) ∧ w'.cell? ⟨w.heap.size, 1, none⟩ = some (.int .i64 ((x 0).j)) ∧ w'.cell? ⟨w.heap.size, 2, none⟩ = some (.int .i64 ((x 1).s)) ∧ w'.cell? ⟨w.heap.size, 3, none⟩ = some (.int .i64 ((x 1).j)) ∧ w'.cell? ⟨w.heap.size, 4, none⟩ = some (.int .i64 ((x 2).s)) ∧ w'.cell? ⟨w.heap.size, 5, none⟩ = some (.int .i64 ((x 2).j)) ∧ w'.cell? ⟨w.heap.size + 1, 0, none⟩ = some (.int .i64 per) ∧ w'.cell? ⟨w.heap.size + 1, 1, none⟩ = some (.bool b0) ∧ w'.cell? ⟨w.heap.size + 1, 2, none⟩ = some (.bool b1) ∧ w'.cell? ⟨w.heap.size + 1, 3, none⟩ = some (.bool b2) ∧ w'.cell? ⟨w.heap.size + 1, 4, none⟩ = some (.bool b3) ∧ w'.cell? ⟨w.heap.size + 1, 5, none⟩ = some (.bool b4) ∧ w'.cell? ⟨w.heap.size + 1, 6, none⟩ = some (.bool b5) ∧ w'.cell? ⟨w.heap.size + 1, 7, none⟩ = some (.slice A n c))
      (first | exact SS.all hv1 | exact SS.all (SS.drew hv1) | exact SS.all (SS.below' (by assumption) (by assumption)))
      (first | (go_at_call 70; refine ((unhide HOV) _).mono ?_; rintro e w' ⟨rfl, hbq⟩))
    all_goals
      rename_i hz
      have hv3 := SS.one hz
      clear hz
      go_wp2_with fail
      go_meet
      case rel => exact ⟨rfl, hv3⟩
  case rest =>
    obtain ⟨rfl, hv⟩ := hcut
    clear hv1 l1 l2 l3 x0 x1 x2 x3 x4 x5 y0 y1 y2 y3 y4 y5 y6 y7 hnq
    have l1 := hv.s.lt
    have l2 := hv.g.lt
    have l3 := hv.r.lt
    obtain ⟨wb, rfl⟩ : ∃ wb : World, wb = wc := ⟨_, rfl⟩
    obtain ⟨y0, y1, y2, y3, y4, y5, y6, y7⟩ := hv.g.c8
    go_wp2
    go_cut [11, 12] from 41 to 44 (fun u11 u12 wx => ∃ adL adI : Nat, u11 = .pointer (some ⟨adL, 0, none⟩) ∧ u12 = .pointer (some ⟨adI, 0, none⟩) ∧ adL ≠ adI ∧ w.heap.size + 1 + 1 < adL ∧ w.heap.size + 1 + 1 < adI ∧ Blk wx adL 26 #[.int .i64 0, .int .i64 0, .int .i64 0] ∧ Blk wx adI 22 #[.bool b0, .bool b1, .bool b2, .bool b3, .bool b4, .bool b5] ∧ SS w wx #[.int .i64 ((x 0).s), .int .i64 ((x 0).j), .int .i64 ((x 1).s), .int .i64 ((x 1).j), .int .i64 ((x 2).s), .int .i64 ((x 2).j)] #[.int .i64 per, .bool b0, .bool b1, .bool b2, .bool b3, .bool b4, .bool b5, .slice A n c])
    case first =>
      go_region
      all_goals go_wp2
      all_goals
        go_meet
        case rel =>
          refine ⟨_, _, rfl, rfl, by omega, by omega, by omega, ?_, ?_, ?_⟩
          · first | exact Blk.drew ((Blk.new _ _ _).alloc _) | exact Blk.drew (Blk.new' (by simp)) | exact (Blk.new _ _ _).alloc _ | exact Blk.new' (by simp)
          · first | exact Blk.drew ((Blk.new _ _ _).alloc _) | exact Blk.drew (Blk.new' (by simp)) | exact (Blk.new _ _ _).alloc _ | exact Blk.new' (by simp)
          · first | exact SS.drew ((hv.alloc _).alloc _) | exact (hv.alloc _).alloc _
    case rest =>
    clear hv l1 l2 l3 y0 y1 y2 y3 y4 y5 y6 y7
    obtain ⟨adL, adI, rfl, rfl, hLI, hLw, hIw, gL0, gI0, hv⟩ := hcut
    have l1 := hv.s.lt
    have l2 := hv.g.lt
    have l3 := hv.r.lt
    have n1 := gL0.lt
    have n2 := gI0.lt
    obtain ⟨x0, x1, x2, x3, x4, x5⟩ := hv.s.c6
    have iy0 := idx48_0 (.int .i64 ((x 0).s)) (.int .i64 ((x 0).j)) (.int .i64 ((x 1).s)) (.int .i64 ((x 1).j)) (.int .i64 ((x 2).s)) (.int .i64 ((x 2).j))
    have iy1 := idx48_1 (.int .i64 ((x 0).s)) (.int .i64 ((x 0).j)) (.int .i64 ((x 1).s)) (.int .i64 ((x 1).j)) (.int .i64 ((x 2).s)) (.int .i64 ((x 2).j))
    have iy2 := idx48_2 (.int .i64 ((x 0).s)) (.int .i64 ((x 0).j)) (.int .i64 ((x 1).s)) (.int .i64 ((x 1).j)) (.int .i64 ((x 2).s)) (.int .i64 ((x 2).j))
    go_wp2
    go_loopw [45] (fun i wr => ((i = .int .i64 0 ∧ Blk wr (adL) 26 #[.int .i64 0, .int .i64 0, .int .i64 0]) ∨ (i = .int .i64 1 ∧ Blk wr (adL) 26 #[.int .i64 (-(x 0).j), .int .i64 0, .int .i64 0]) ∨ (i = .int .i64 2 ∧ Blk wr (adL) 26 #[.int .i64 (-(x 0).j), .int .i64 (-(x 1).j), .int .i64 0]) ∨ (i = .int .i64 3 ∧ Blk wr (adL) 26 #[.int .i64 (-(x 0).j), .int .i64 (-(x 1).j), .int .i64 (-(x 2).j)])) ∧ Blk wr adI 22 #[.bool b0, .bool b1, .bool b2, .bool b3, .bool b4, .bool b5] ∧ SS w wr #[.int .i64 ((x 0).s), .int .i64 ((x 0).j), .int .i64 ((x 1).s), .int .i64 ((x 1).j), .int .i64 ((x 2).s), .int .i64 ((x 2).j)] #[.int .i64 per, .bool b0, .bool b1, .bool b2, .bool b3, .bool b4, .bool b5, .slice A n c]) (fun i _ => 3 - (intOf i).toNat)
    case atStart => exact ⟨.inl ⟨rfl, gL0⟩, gI0, hv⟩
    case round =>
    clear hv gL0 gI0 x0 x1 x2 x3 x4 x5 l1 l2 l3 n1 n2
    obtain ⟨hdj, gI, hv⟩ := hrel
    have l1 := hv.s.lt
    have l2 := hv.g.lt
    have l3 := hv.r.lt
    have lI := gI.lt
    rcases hdj with ⟨rfl, gL⟩ | ⟨rfl, gL⟩ | ⟨rfl, gL⟩ | ⟨rfl, gL⟩
    · obtain ⟨z0, z1, z2⟩ := gL.c3
      have lL := gL.lt
      have fz := gL.frozen 0
      go_wp2
      go_roundw
      case rel => exact ⟨(.inr (.inl ⟨rfl, (gL.set_ 0 (.int .i64 (-(x 0).j))).alloc _⟩)), (gI.far (by simp <;> omega) _).alloc _, (hv.set (p := ⟨adL, 0, none⟩) hLw _).alloc _⟩
      case measure => simp [intOf]
    · obtain ⟨z0, z1, z2⟩ := gL.c3
      have lL := gL.lt
      have fz := gL.frozen 1
      go_wp2
      go_roundw
      case rel => exact ⟨(.inr (.inr (.inl ⟨rfl, (gL.set_ 1 (.int .i64 (-(x 1).j))).alloc _⟩))), (gI.far (by simp <;> omega) _).alloc _, (hv.set (p := ⟨adL, 1, none⟩) hLw _).alloc _⟩
      case measure => simp [intOf]
    · obtain ⟨z0, z1, z2⟩ := gL.c3
      have lL := gL.lt
      have fz := gL.frozen 2
      go_wp2
      go_roundw
      case rel => exact ⟨(.inr (.inr (.inr ⟨rfl, (gL.set_ 2 (.int .i64 (-(x 2).j))).alloc _⟩))), (gI.far (by simp <;> omega) _).alloc _, (hv.set (p := ⟨adL, 2, none⟩) hLw _).alloc _⟩
      case measure => simp [intOf]
    · have lL := gL.lt
      obtain ⟨y0, y1, y2, y3, y4, y5, y6, y7⟩ := hv.g.c8
      go_wp2
      go_loopw [58] (fun i wr => ∃ (k : Nat) (σ : Sf), k ≤ n ∧ i = .int .i64 k ∧ Hid (sfR dead (some (sf0 x)) (es.take k) = some σ) ∧ Hid (σ.is.length = 6) ∧ Hid (∀ l, l < 3 → -4096 ≤ σ.la l ∧ σ.la l ≤ 4096) ∧ Blk wr adI 22 (cellsS σ.is) ∧ Blk wr adL 26 (cells3 σ.la) ∧ SS w wr #[.int .i64 ((x 0).s), .int .i64 ((x 0).j), .int .i64 ((x 1).s), .int .i64 ((x 1).j), .int .i64 ((x 2).s), .int .i64 ((x 2).j)] #[.int .i64 per, .bool b0, .bool b1, .bool b2, .bool b3, .bool b4, .bool b5, .slice A n c]) (fun i _ => n - (intOf i).toNat)
      case atStart =>
        refine ⟨0, sf0 x, Nat.zero_le _, rfl, rfl, rfl, ?_, ?_, gL, hv⟩
        · intro l hl
          show -4096 ≤ -(x l).j ∧ -(x l).j ≤ 4096
          match l, hl with
          | 0, _ => omega
          | 1, _ => omega
          | 2, _ => omega
        · show Blk _ _ _ (cellsS (onL x))
          rw [HON.out]
          exact gI
      case round =>
      clear gL gI hv y0 y1 y2 y3 y4 y5 y6 y7 l1 l2 l3 lL lI
      obtain ⟨k, σ, hk, rfl, hsf, hlen, hla, gI, gL, hv⟩ := hrel
      have l1 := hv.s.lt
      have l2 := hv.g.lt
      have l3 := hv.r.lt
      have lI := gI.lt
      have lL := gL.lt
      by_cases hlt : k < n
      · obtain ⟨e, he⟩ : ∃ e, es[k]? = some e := ⟨_, List.getElem?_eq_getElem (by have := HN.out; omega)⟩
        obtain ⟨ad, p, rfl, hpa, hpb, e0, e1, e2⟩ := (hE.below hv.b).three (k := k) (x := .int .i64 e.t) (y := .int .i64 e.s) (z := .bool e.o) (by rw [List.getElem?_map, he]; rfl)
        have hbs := hv.b.size
        have hpb1 : p.block < wr.heap.size := by omega
        obtain ⟨t0, t1, hs0, hs5⟩ : 0 ≤ e.t ∧ e.t < per ∧ 0 ≤ e.s ∧ e.s ≤ 5 := by
          have h1 := List.getElem?_eq_some_iff.1 he
          have h2 := HVAL.out.ins k h1.1
          rw [h1.2] at h2
          exact h2
        have hs6 : e.s < 6 := by omega
        have hxor : e.s + 1 - e.s % 2 * 2 = oth e.s := rfl
        have hob := oth_in e.s hs0 hs5
        have hstep : sfR dead (some (sf0 x)) (es.take (k + 1)) = sfStep dead (some σ) e := by rw [sfR_take he, hsf.out]
        unfold sfStep at hstep
        obtain ⟨lg, hlg⟩ : ∃ lg, e.s / 2 = lg := ⟨_, rfl⟩
        have hlg0 : 0 ≤ lg := by omega
        have hlg2 : lg < 3 := by omega
        have hleg : legN e.s = lg.toNat := by unfold legN; rw [hlg]
        obtain ⟨ot, hot⟩ : ∃ ot, oth e.s = ot := ⟨_, rfl⟩
        rw [hot] at hxor hob hstep
        rw [hleg] at hstep
        obtain ⟨ho0, ho5⟩ := hob
        have ho6 : ot < 6 := by omega
        have aI := (cellsS_at hlen.out (show e.s.toNat < 6 by omega))
        have aO := (cellsS_at hlen.out (show ot.toNat < 6 by omega))
        have aL := (cells3_get σ.la (show lg.toNat < 3 by omega))
        have hlv := hla.out lg.toNat (by omega)
        obtain ⟨sb, hsb⟩ : ∃ b, σ.is.getD e.s.toNat false = b := ⟨_, rfl⟩
        obtain ⟨ob, hobb⟩ : ∃ b, σ.is.getD ot.toNat false = b := ⟨_, rfl⟩
        obtain ⟨lv, hlvv⟩ : ∃ v, σ.la lg.toNat = v := ⟨_, rfl⟩
        simp only [hsb, hobb, hlvv] at hstep
        rw [hsb] at aI
        rw [hobb] at aO
        rw [hlvv] at aL hlv
        obtain ⟨hlv0, hlv1⟩ := hlv
        have ew : IntKind.i64.wrap (e.t - lv) = e.t - lv := IntWalk.i64_in _ (by omega)
        have fI := gI.frozen e.s.toNat
        have fL := gL.frozen lg.toNat
        have HSTEP := Lib.hid hstep
        have HSL := Lib.hid (show cellsS (step σ.is e) = (cellsS σ.is).setIfInBounds e.s.toNat (.bool e.o) from (cellsS_step σ.is e).symm)
        have HLL := Lib.hid (show cells3 (updN σ.la lg.toNat e.t) = (cells3 σ.la).setIfInBounds lg.toNat (.int .i64 e.t) from (cells3_set σ.la (by omega) e.t).symm)
        have hlen2 : Hid ((step σ.is e).length = 6) := by show _ = _; rw [show step σ.is e = σ.is.set e.s.toNat e.o from rfl, List.length_set]; exact hlen.out
        have hla2 : Hid (∀ l, l < 3 → -4096 ≤ updN σ.la lg.toNat e.t l ∧ updN σ.la lg.toNat e.t l ≤ 4096) := fun l hl => by
          unfold updN
          split
          · omega
          · exact hla.out l hl
        obtain ⟨es_, hes_⟩ : ∃ s, e.s = s := ⟨_, rfl⟩
        obtain ⟨et, het⟩ : ∃ s, e.t = s := ⟨_, rfl⟩
        obtain ⟨eo, heo⟩ : ∃ s, e.o = s := ⟨_, rfl⟩
        obtain ⟨is2, his2⟩ : ∃ s, step σ.is e = s := ⟨_, rfl⟩
        rw [hes_] at e1 hs0 hs5 hs6 hxor hlg aI fI HSL
        rw [het] at e0 t0 t1 ew HLL hla2
        rw [heo] at e2 HSL
        rw [his2] at HSL hlen2
        have hcs : (sb = eo ∧ sfR dead (some (sf0 x)) (es.take (k + 1)) = none) ∨ (eo = true ∧ sb = false ∧ ob = true ∧ sfR dead (some (sf0 x)) (es.take (k + 1)) = none) ∨ (eo = true ∧ sb = false ∧ ob = false ∧ et - lv < dead ∧ sfR dead (some (sf0 x)) (es.take (k + 1)) = none) ∨ (eo = true ∧ sb = false ∧ ob = false ∧ ¬ et - lv < dead ∧ sfR dead (some (sf0 x)) (es.take (k + 1)) = some ⟨is2, σ.la⟩) ∨ (eo = false ∧ sb = true ∧ sfR dead (some (sf0 x)) (es.take (k + 1)) = some ⟨is2, updN σ.la lg.toNat et⟩) := by
          rw [HSTEP.out, heo, het, his2]
          cases eo <;> cases sb
          · exact .inl ⟨rfl, rfl⟩
          · exact .inr (.inr (.inr (.inr ⟨rfl, rfl, by simp⟩)))
          · cases ob
            · by_cases hg : et - lv < dead
              · exact .inr (.inr (.inl ⟨rfl, rfl, rfl, hg, by simp [hg]⟩))
              · exact .inr (.inr (.inr (.inl ⟨rfl, rfl, rfl, hg, by simp [hg]⟩)))
            · exact .inr (.inl ⟨rfl, rfl, rfl, by simp⟩)
          · exact .inl ⟨rfl, rfl⟩
        have HCS := Lib.hid hcs
        clear hcs hstep HSTEP his2 hes_ het heo he hsb hobb hlvv hleg hot
        have gE1 := Blk.new wr 37 #[.int .i64 et, .int .i64 es_, .bool eo]
        have gI1 := gI.alloc (.cells #[.int .i64 et, .int .i64 es_, .bool eo] 37)
        have gL1 := gL.alloc (.cells #[.int .i64 et, .int .i64 es_, .bool eo] 37)
        have hv1 := hv.alloc (.cells #[.int .i64 et, .int .i64 es_, .bool eo] 37)
        have hcI := (gI.cell es_.toNat).trans aI
        have lIw : w.heap.size + 1 + 1 < adI := hIw
        rcases HCS.out with ⟨hq, hbad⟩ | ⟨rfl, rfl, rfl, hbad⟩ | ⟨rfl, rfl, rfl, hg, hbad⟩ | ⟨rfl, rfl, rfl, hg, hok⟩ | ⟨rfl, rfl, hok⟩
        · subst hq
          cases sb
          · have hx := trivial
            go_wp2
            go_quiet (fail)
            have hv2 := hv1.drewN nq
            have gI2 := gI1.drewN nq
            have gL2 := gL1.drewN nq
            have gE2 := gE1.drewN nq
            obtain ⟨wq, hwq⟩ : ∃ wq, World.drewN (wr.alloc (.cells #[.int .i64 et, .int .i64 es_, .bool false] 37)) nq = wq := ⟨_, rfl⟩
            rw [hwq] at hv2 gI2 gL2 gE2 ⊢
            clear hwq
            have m1 := hv2.s.lt
            have m2 := hv2.g.lt
            have m3 := hv2.r.lt
            have m4 := gI2.lt
            have m5 := gL2.lt
            have m6 := gE2.lt
            have q1 := (gI2.cell es_.toNat).trans aI
            have q2 := (gI2.cell ot.toNat).trans aO
            have q3 := (gL2.cell lg.toNat).trans aL
            obtain ⟨r0, r1, r2⟩ := gE2.c3
            have q4 := gI2.frozen es_.toNat
            have q5 := gL2.frozen lg.toNat
            go_wp2
            go_quiet (fail)
            have hv3 := hv2.drewN nq
            have gI3 := gI2.drewN nq
            have gL3 := gL2.drewN nq
            have gE3 := gE2.drewN nq
            obtain ⟨wp, hwp⟩ : ∃ wp, World.drewN wq nq = wp := ⟨_, rfl⟩
            rw [hwp] at hv3 gI3 gL3 gE3 ⊢
            clear hwp
            have m1 := hv3.s.lt
            have m2 := hv3.g.lt
            have m3 := hv3.r.lt
            have m4 := gI3.lt
            have m5 := gL3.lt
            have m6 := gE3.lt
            have q1 := (gI3.cell es_.toNat).trans aI
            have q2 := (gI3.cell ot.toNat).trans aO
            have q3 := (gL3.cell lg.toNat).trans aL
            obtain ⟨r0, r1, r2⟩ := gE3.c3
            have q4 := gI3.frozen es_.toNat
            have q5 := gL3.frozen lg.toNat
            have HB := Lib.hid (sfR_bad hbad)
            clear hbad
            obtain ⟨z0, z1, z2, z3, z4, z5⟩ := hv3.r.c6
            have fz0 := hv3.r.frozen 0
            have fz1 := hv3.r.frozen 1
            have fz2 := hv3.r.frozen 2
            have fz3 := hv3.r.frozen 3
            have fz4 := hv3.r.frozen 4
            have fz5 := hv3.r.frozen 5
            go_wp2
            refine bodyPost_ret (ret_tct rfl rfl (load_legs ((((((hv3.r.set_ 0 _).set_ 1 _).set_ 2 _).set_ 3 _).set_ 4 _).set_ 5 _))) rfl ⟨fun _ => rfl, (fun σ' h => by rw [HB.out] at h; cases h), ?_⟩
            exact (((((hv3.b.setCell (by simp <;> omega) _).setCell (by simp <;> omega) _).setCell (by simp <;> omega) _).setCell (by simp <;> omega) _).setCell (by simp <;> omega) _).setCell (by simp <;> omega) _
          · have hx := trivial
            go_wp2
            go_quiet (fail)
            have hv2 := hv1.drewN nq
            have gI2 := gI1.drewN nq
            have gL2 := gL1.drewN nq
            have gE2 := gE1.drewN nq
            obtain ⟨wq, hwq⟩ : ∃ wq, World.drewN (wr.alloc (.cells #[.int .i64 et, .int .i64 es_, .bool true] 37)) nq = wq := ⟨_, rfl⟩
            rw [hwq] at hv2 gI2 gL2 gE2 ⊢
            clear hwq
            have m1 := hv2.s.lt
            have m2 := hv2.g.lt
            have m3 := hv2.r.lt
            have m4 := gI2.lt
            have m5 := gL2.lt
            have m6 := gE2.lt
            have q1 := (gI2.cell es_.toNat).trans aI
            have q2 := (gI2.cell ot.toNat).trans aO
            have q3 := (gL2.cell lg.toNat).trans aL
            obtain ⟨r0, r1, r2⟩ := gE2.c3
            have q4 := gI2.frozen es_.toNat
            have q5 := gL2.frozen lg.toNat
            go_wp2
            go_quiet (fail)
            have hv3 := hv2.drewN nq
            have gI3 := gI2.drewN nq
            have gL3 := gL2.drewN nq
            have gE3 := gE2.drewN nq
            obtain ⟨wp, hwp⟩ : ∃ wp, World.drewN wq nq = wp := ⟨_, rfl⟩
            rw [hwp] at hv3 gI3 gL3 gE3 ⊢
            clear hwp
            have m1 := hv3.s.lt
            have m2 := hv3.g.lt
            have m3 := hv3.r.lt
            have m4 := gI3.lt
            have m5 := gL3.lt
            have m6 := gE3.lt
            have q1 := (gI3.cell es_.toNat).trans aI
            have q2 := (gI3.cell ot.toNat).trans aO
            have q3 := (gL3.cell lg.toNat).trans aL
            obtain ⟨r0, r1, r2⟩ := gE3.c3
            have q4 := gI3.frozen es_.toNat
            have q5 := gL3.frozen lg.toNat
            have HB := Lib.hid (sfR_bad hbad)
            clear hbad
            obtain ⟨z0, z1, z2, z3, z4, z5⟩ := hv3.r.c6
            have fz0 := hv3.r.frozen 0
            have fz1 := hv3.r.frozen 1
            have fz2 := hv3.r.frozen 2
            have fz3 := hv3.r.frozen 3
            have fz4 := hv3.r.frozen 4
            have fz5 := hv3.r.frozen 5
            go_wp2
            refine bodyPost_ret (ret_tct rfl rfl (load_legs ((((((hv3.r.set_ 0 _).set_ 1 _).set_ 2 _).set_ 3 _).set_ 4 _).set_ 5 _))) rfl ⟨fun _ => rfl, (fun σ' h => by rw [HB.out] at h; cases h), ?_⟩
            exact (((((hv3.b.setCell (by simp <;> omega) _).setCell (by simp <;> omega) _).setCell (by simp <;> omega) _).setCell (by simp <;> omega) _).setCell (by simp <;> omega) _).setCell (by simp <;> omega) _
        · have hx := trivial
          go_wp2
          go_quiet (fail)
          have hv2 := hv1.drewN nq
          have gI2 := gI1.drewN nq
          have gL2 := gL1.drewN nq
          have gE2 := gE1.drewN nq
          obtain ⟨wq, hwq⟩ : ∃ wq, World.drewN (wr.alloc (.cells #[.int .i64 et, .int .i64 es_, .bool true] 37)) nq = wq := ⟨_, rfl⟩
          rw [hwq] at hv2 gI2 gL2 gE2 ⊢
          clear hwq
          have m1 := hv2.s.lt
          have m2 := hv2.g.lt
          have m3 := hv2.r.lt
          have m4 := gI2.lt
          have m5 := gL2.lt
          have m6 := gE2.lt
          have q1 := (gI2.cell es_.toNat).trans aI
          have q2 := (gI2.cell ot.toNat).trans aO
          have q3 := (gL2.cell lg.toNat).trans aL
          obtain ⟨r0, r1, r2⟩ := gE2.c3
          have q4 := gI2.frozen es_.toNat
          have q5 := gL2.frozen lg.toNat
          go_wp2
          go_quiet (fail)
          have hv3 := hv2.drewN nq
          have gI3 := gI2.drewN nq
          have gL3 := gL2.drewN nq
          have gE3 := gE2.drewN nq
          obtain ⟨wp, hwp⟩ : ∃ wp, World.drewN wq nq = wp := ⟨_, rfl⟩
          rw [hwp] at hv3 gI3 gL3 gE3 ⊢
          clear hwp
          have m1 := hv3.s.lt
          have m2 := hv3.g.lt
          have m3 := hv3.r.lt
          have m4 := gI3.lt
          have m5 := gL3.lt
          have m6 := gE3.lt
          have q1 := (gI3.cell es_.toNat).trans aI
          have q2 := (gI3.cell ot.toNat).trans aO
          have q3 := (gL3.cell lg.toNat).trans aL
          obtain ⟨r0, r1, r2⟩ := gE3.c3
          have q4 := gI3.frozen es_.toNat
          have q5 := gL3.frozen lg.toNat
          have HB := Lib.hid (sfR_bad hbad)
          clear hbad
          obtain ⟨z0, z1, z2, z3, z4, z5⟩ := hv3.r.c6
          have fz0 := hv3.r.frozen 0
          have fz1 := hv3.r.frozen 1
          have fz2 := hv3.r.frozen 2
          have fz3 := hv3.r.frozen 3
          have fz4 := hv3.r.frozen 4
          have fz5 := hv3.r.frozen 5
          go_wp2
          refine bodyPost_ret (ret_tct rfl rfl (load_legs ((((((hv3.r.set_ 0 _).set_ 1 _).set_ 2 _).set_ 3 _).set_ 4 _).set_ 5 _))) rfl ⟨fun _ => rfl, (fun σ' h => by rw [HB.out] at h; cases h), ?_⟩
          exact (((((hv3.b.setCell (by simp <;> omega) _).setCell (by simp <;> omega) _).setCell (by simp <;> omega) _).setCell (by simp <;> omega) _).setCell (by simp <;> omega) _).setCell (by simp <;> omega) _
        · have dg : decide (et - lv < dead) = true := decide_eq_true hg
          clear hg
          go_wp2
          go_quiet (fail)
          have hv2 := hv1.drewN nq
          have gI2 := gI1.drewN nq
          have gL2 := gL1.drewN nq
          have gE2 := gE1.drewN nq
          obtain ⟨wq, hwq⟩ : ∃ wq, World.drewN (wr.alloc (.cells #[.int .i64 et, .int .i64 es_, .bool true] 37)) nq = wq := ⟨_, rfl⟩
          rw [hwq] at hv2 gI2 gL2 gE2 ⊢
          clear hwq
          have m1 := hv2.s.lt
          have m2 := hv2.g.lt
          have m3 := hv2.r.lt
          have m4 := gI2.lt
          have m5 := gL2.lt
          have m6 := gE2.lt
          have q1 := (gI2.cell es_.toNat).trans aI
          have q2 := (gI2.cell ot.toNat).trans aO
          have q3 := (gL2.cell lg.toNat).trans aL
          obtain ⟨r0, r1, r2⟩ := gE2.c3
          have q4 := gI2.frozen es_.toNat
          have q5 := gL2.frozen lg.toNat
          go_wp2
          go_quiet (fail)
          have hv3 := hv2.drewN nq
          have gI3 := gI2.drewN nq
          have gL3 := gL2.drewN nq
          have gE3 := gE2.drewN nq
          obtain ⟨wp, hwp⟩ : ∃ wp, World.drewN wq nq = wp := ⟨_, rfl⟩
          rw [hwp] at hv3 gI3 gL3 gE3 ⊢
          clear hwp
          have m1 := hv3.s.lt
          have m2 := hv3.g.lt
          have m3 := hv3.r.lt
          have m4 := gI3.lt
          have m5 := gL3.lt
          have m6 := gE3.lt
          have q1 := (gI3.cell es_.toNat).trans aI
          have q2 := (gI3.cell ot.toNat).trans aO
          have q3 := (gL3.cell lg.toNat).trans aL
          obtain ⟨r0, r1, r2⟩ := gE3.c3
          have q4 := gI3.frozen es_.toNat
          have q5 := gL3.frozen lg.toNat
          have HB := Lib.hid (sfR_bad hbad)
          clear hbad
          obtain ⟨z0, z1, z2, z3, z4, z5⟩ := hv3.r.c6
          have fz0 := hv3.r.frozen 0
          have fz1 := hv3.r.frozen 1
          have fz2 := hv3.r.frozen 2
          have fz3 := hv3.r.frozen 3
          have fz4 := hv3.r.frozen 4
          have fz5 := hv3.r.frozen 5
          go_wp2
          refine bodyPost_ret (ret_tct rfl rfl (load_legs ((((((hv3.r.set_ 0 _).set_ 1 _).set_ 2 _).set_ 3 _).set_ 4 _).set_ 5 _))) rfl ⟨fun _ => rfl, (fun σ' h => by rw [HB.out] at h; cases h), ?_⟩
          exact (((((hv3.b.setCell (by simp <;> omega) _).setCell (by simp <;> omega) _).setCell (by simp <;> omega) _).setCell (by simp <;> omega) _).setCell (by simp <;> omega) _).setCell (by simp <;> omega) _
        · have dg : decide (et - lv < dead) = false := decide_eq_false hg
          clear hg
          have HOK := Lib.hid hok
          clear hok
          go_wp2
          go_quiet (fail)
          have hv2 := hv1.drewN nq
          have gI2 := gI1.drewN nq
          have gL2 := gL1.drewN nq
          have gE2 := gE1.drewN nq
          obtain ⟨wq, hwq⟩ : ∃ wq, World.drewN (wr.alloc (.cells #[.int .i64 et, .int .i64 es_, .bool true] 37)) nq = wq := ⟨_, rfl⟩
          rw [hwq] at hv2 gI2 gL2 gE2 ⊢
          clear hwq
          have m1 := hv2.s.lt
          have m2 := hv2.g.lt
          have m3 := hv2.r.lt
          have m4 := gI2.lt
          have m5 := gL2.lt
          have m6 := gE2.lt
          have q1 := (gI2.cell es_.toNat).trans aI
          have q2 := (gI2.cell ot.toNat).trans aO
          have q3 := (gL2.cell lg.toNat).trans aL
          obtain ⟨r0, r1, r2⟩ := gE2.c3
          have q4 := gI2.frozen es_.toNat
          have q5 := gL2.frozen lg.toNat
          go_wp2
          go_quiet (fail)
          have hv3 := hv2.drewN nq
          have gI3 := gI2.drewN nq
          have gL3 := gL2.drewN nq
          have gE3 := gE2.drewN nq
          obtain ⟨wp, hwp⟩ : ∃ wp, World.drewN wq nq = wp := ⟨_, rfl⟩
          rw [hwp] at hv3 gI3 gL3 gE3 ⊢
          clear hwp
          have m1 := hv3.s.lt
          have m2 := hv3.g.lt
          have m3 := hv3.r.lt
          have m4 := gI3.lt
          have m5 := gL3.lt
          have m6 := gE3.lt
          have q1 := (gI3.cell es_.toNat).trans aI
          have q2 := (gI3.cell ot.toNat).trans aO
          have q3 := (gL3.cell lg.toNat).trans aL
          obtain ⟨r0, r1, r2⟩ := gE3.c3
          have q4 := gI3.frozen es_.toNat
          have q5 := gL3.frozen lg.toNat
          go_wp2
          go_roundw
          case rel =>
            refine ⟨k + 1, ⟨is2, σ.la⟩, by omega, by go_num, HOK, hlen2, hla, ?_, gL3.far (by simp <;> omega) _, hv3.set (p := ⟨adI, es_.toNat, none⟩) lIw _⟩
            show Blk _ _ _ (cellsS is2)
            rw [HSL.out]
            exact gI3.set_ _ _
          case measure => simp [intOf]; omega
        · have HOK := Lib.hid hok
          clear hok
          go_wp2
          go_quiet (fail)
          have hv2 := hv1.drewN nq
          have gI2 := gI1.drewN nq
          have gL2 := gL1.drewN nq
          have gE2 := gE1.drewN nq
          obtain ⟨wq, hwq⟩ : ∃ wq, World.drewN (wr.alloc (.cells #[.int .i64 et, .int .i64 es_, .bool false] 37)) nq = wq := ⟨_, rfl⟩
          rw [hwq] at hv2 gI2 gL2 gE2 ⊢
          clear hwq
          have m1 := hv2.s.lt
          have m2 := hv2.g.lt
          have m3 := hv2.r.lt
          have m4 := gI2.lt
          have m5 := gL2.lt
          have m6 := gE2.lt
          have q1 := (gI2.cell es_.toNat).trans aI
          have q2 := (gI2.cell ot.toNat).trans aO
          have q3 := (gL2.cell lg.toNat).trans aL
          obtain ⟨r0, r1, r2⟩ := gE2.c3
          have q4 := gI2.frozen es_.toNat
          have q5 := gL2.frozen lg.toNat
          go_wp2
          go_quiet (fail)
          have hv3 := hv2.drewN nq
          have gI3 := gI2.drewN nq
          have gL3 := gL2.drewN nq
          have gE3 := gE2.drewN nq
          obtain ⟨wp, hwp⟩ : ∃ wp, World.drewN wq nq = wp := ⟨_, rfl⟩
          rw [hwp] at hv3 gI3 gL3 gE3 ⊢
          clear hwp
          have m1 := hv3.s.lt
          have m2 := hv3.g.lt
          have m3 := hv3.r.lt
          have m4 := gI3.lt
          have m5 := gL3.lt
          have m6 := gE3.lt
          have q1 := (gI3.cell es_.toNat).trans aI
          have q2 := (gI3.cell ot.toNat).trans aO
          have q3 := (gL3.cell lg.toNat).trans aL
          obtain ⟨r0, r1, r2⟩ := gE3.c3
          have q4 := gI3.frozen es_.toNat
          have q5 := gL3.frozen lg.toNat
          go_wp2
          go_roundw
          case rel =>
            refine ⟨k + 1, ⟨is2, updN σ.la lg.toNat et⟩, by omega, by go_num, HOK, hlen2, hla2, ?_, ?_, (hv3.set (p := ⟨adI, es_.toNat, none⟩) lIw _).set (p := ⟨adL, lg.toNat, none⟩) hLw _⟩
            · show Blk _ _ _ (cellsS is2)
              rw [HSL.out]
              exact (gI3.set_ _ _).far (by simp <;> omega) _
            · show Blk _ _ _ (cells3 (updN σ.la lg.toNat et))
              rw [HLL.out]
              exact (gL3.far (by simp <;> omega) _).set_ _ _
          case measure => simp [intOf]; omega
      · have hkn : n = k := by omega
        subst hkn
        have hfin : sfR dead (some (sf0 x)) es = some σ := by
          have h := hsf.out
          rw [HN.out, List.take_length] at h
          exact h
        have HF := Lib.hid hfin
        obtain ⟨y, hy⟩ : ∃ y, rfEnd per σ = y := ⟨_, rfl⟩
        obtain ⟨is1, la⟩ := σ
        obtain ⟨c0, c1, c2, c3, c4, c5, hcs⟩ : ∃ c0 c1 c2 c3 c4 c5 : Bool, is1 = [c0, c1, c2, c3, c4, c5] := by
          have h6 : is1.length = 6 := hlen.out
          match is1, h6 with
          | [c0, c1, c2, c3, c4, c5], _ => exact ⟨c0, c1, c2, c3, c4, c5, rfl⟩
        subst hcs
        have hy0 : y 0 = ⟨if c1 = true then 1 else if c0 = true then 2 else 0, min (per - la 0) 4096⟩ := by rw [← hy]; rfl
        have hy1 : y 1 = ⟨if c3 = true then 1 else if c2 = true then 2 else 0, min (per - la 1) 4096⟩ := by rw [← hy]; rfl
        have hy2 : y 2 = ⟨if c5 = true then 1 else if c4 = true then 2 else 0, min (per - la 2) 4096⟩ := by rw [← hy]; rfl
        have la0 : -4096 ≤ la 0 ∧ la 0 ≤ 4096 := hla.out 0 (by omega)
        have la1 : -4096 ≤ la 1 ∧ la 1 ≤ 4096 := hla.out 1 (by omega)
        have la2 : -4096 ≤ la 2 ∧ la 2 ≤ 4096 := hla.out 2 (by omega)
        have HY := Lib.hid hy
        have HY0 := Lib.hid hy0
        have HY1 := Lib.hid hy1
        have HY2 := Lib.hid hy2
        have gI' : Blk wr adI 22 #[.bool c0, .bool c1, .bool c2, .bool c3, .bool c4, .bool c5] := gI
        have gL' : Blk wr adL 26 #[.int .i64 (la 0), .int .i64 (la 1), .int .i64 (la 2)] := gL
        have lIw : w.heap.size + 1 + 1 < adI := hIw
        clear hfin hy hy0 hy1 hy2 hsf hlen hla gI gL
        go_wp2
        go_loopw [113] (fun i wr => ((i = .int .i64 0 ∧ SS w wr #[.int .i64 ((x 0).s), .int .i64 ((x 0).j), .int .i64 ((x 1).s), .int .i64 ((x 1).j), .int .i64 ((x 2).s), .int .i64 ((x 2).j)] #[.int .i64 per, .bool b0, .bool b1, .bool b2, .bool b3, .bool b4, .bool b5, .slice A n c]) ∨ (i = .int .i64 1 ∧ SS w wr #[.int .i64 ((y 0).s), .int .i64 ((y 0).j), .int .i64 ((x 1).s), .int .i64 ((x 1).j), .int .i64 ((x 2).s), .int .i64 ((x 2).j)] #[.int .i64 per, .bool b0, .bool b1, .bool b2, .bool b3, .bool b4, .bool b5, .slice A n c]) ∨ (i = .int .i64 2 ∧ SS w wr #[.int .i64 ((y 0).s), .int .i64 ((y 0).j), .int .i64 ((y 1).s), .int .i64 ((y 1).j), .int .i64 ((x 2).s), .int .i64 ((x 2).j)] #[.int .i64 per, .bool b0, .bool b1, .bool b2, .bool b3, .bool b4, .bool b5, .slice A n c]) ∨ (i = .int .i64 3 ∧ SS w wr #[.int .i64 ((y 0).s), .int .i64 ((y 0).j), .int .i64 ((y 1).s), .int .i64 ((y 1).j), .int .i64 ((y 2).s), .int .i64 ((y 2).j)] #[.int .i64 per, .bool b0, .bool b1, .bool b2, .bool b3, .bool b4, .bool b5, .slice A n c])) ∧ Blk wr adI 22 #[.bool c0, .bool c1, .bool c2, .bool c3, .bool c4, .bool c5] ∧ Blk wr adL 26 #[.int .i64 (la 0), .int .i64 (la 1), .int .i64 (la 2)]) (fun i _ => 3 - (intOf i).toNat)
        case atStart => exact ⟨.inl ⟨rfl, hv⟩, gI', gL'⟩
        case round =>
        clear hv gI' gL' l1 l2 l3 lI lL
        obtain ⟨hdj, gI, gL⟩ := hrel
        have lI := gI.lt
        have lL := gL.lt
        have d1 : w.heap.size ≠ adI := by omega
        have d2 : w.heap.size ≠ adL := by omega
        have d3 : w.heap.size + 1 ≠ adI := by omega
        obtain ⟨i0, i1, i2, i3, i4, i5⟩ := gI.c6
        obtain ⟨j0, j1, j2⟩ := gL.c3
        rcases hdj with ⟨rfl, hv⟩ | ⟨rfl, hv⟩ | ⟨rfl, hv⟩ | ⟨rfl, hv⟩
        · obtain ⟨x0, x1, x2, x3, x4, x5⟩ := hv.s.c6
          obtain ⟨g0, _, _, _, _, _, _, _⟩ := hv.g.c8
          have fa := hv.s.frozen 0
          have fb := hv.s.frozen 1
          have m1 := hv.s.lt
          have m2 := hv.g.lt
          have m3 := hv.r.lt
          have ew : IntKind.i64.wrap (per - la 0) = per - la 0 := IntWalk.i64_in _ (by omega)
          obtain ⟨mk, hmk⟩ : ∃ m, min (per - la 0) 4096 = m := ⟨_, rfl⟩
          have hif : (if (4096 : Int) < per - la 0 then 4096 else per - la 0) = mk := by rw [← hmk]; split <;> omega
          have hcs : (c0 = true ∧ c1 = false ∧ y 0 = ⟨2, mk⟩) ∨ (c0 = false ∧ c1 = true ∧ y 0 = ⟨1, mk⟩) ∨ (c0 = false ∧ c1 = false ∧ y 0 = ⟨0, mk⟩) ∨ (c0 = true ∧ c1 = true ∧ y 0 = ⟨1, mk⟩) := by
            rw [HY0.out, hmk]
            cases c0 <;> cases c1 <;> simp
          have HCS := Lib.hid hcs
          clear hcs hmk
          rcases HCS.out with ⟨rfl, rfl, hyk⟩ | ⟨rfl, rfl, hyk⟩ | ⟨rfl, rfl, hyk⟩ | ⟨rfl, rfl, hyk⟩
          · have HK := Lib.hid hyk
            clear hyk HCS
            go_wp2
            go_region
            all_goals go_wp2
            all_goals go_roundw
            case rel =>
              refine ⟨(.inr (.inl ⟨rfl, ?_⟩)), (((gI.far (by simp <;> omega) _).far (by simp <;> omega) _).far (by simp <;> omega) _).drew, (((gL.far (by simp <;> omega) _).far (by simp <;> omega) _).far (by simp <;> omega) _).drew⟩
              rw [HK.out]
              exact SS.drew (((hv.setS 0 (.int .i64 0)).setS 1 (.int .i64 mk)).setS 0 (.int .i64 2))
            case measure => simp [intOf]
          · have HK := Lib.hid hyk
            clear hyk HCS
            go_wp2
            go_region
            all_goals go_wp2
            all_goals go_roundw
            case rel =>
              refine ⟨(.inr (.inl ⟨rfl, ?_⟩)), (((gI.far (by simp <;> omega) _).far (by simp <;> omega) _).far (by simp <;> omega) _).drew, (((gL.far (by simp <;> omega) _).far (by simp <;> omega) _).far (by simp <;> omega) _).drew⟩
              rw [HK.out]
              exact SS.drew (((hv.setS 0 (.int .i64 0)).setS 1 (.int .i64 mk)).setS 0 (.int .i64 1))
            case measure => simp [intOf]
          · have HK := Lib.hid hyk
            clear hyk HCS
            go_wp2
            go_region
            all_goals go_wp2
            all_goals go_roundw
            case rel =>
              refine ⟨(.inr (.inl ⟨rfl, ?_⟩)), ((gI.far (by simp <;> omega) _).far (by simp <;> omega) _).drew, ((gL.far (by simp <;> omega) _).far (by simp <;> omega) _).drew⟩
              rw [HK.out]
              exact SS.drew ((hv.setS 0 (.int .i64 0)).setS 1 (.int .i64 mk))
            case measure => simp [intOf]
          · have HK := Lib.hid hyk
            clear hyk HCS
            go_wp2
            go_region
            all_goals go_wp2
            all_goals go_roundw
            case rel =>
              refine ⟨(.inr (.inl ⟨rfl, ?_⟩)), ((((gI.far (by simp <;> omega) _).far (by simp <;> omega) _).far (by simp <;> omega) _).far (by simp <;> omega) _).drew, ((((gL.far (by simp <;> omega) _).far (by simp <;> omega) _).far (by simp <;> omega) _).far (by simp <;> omega) _).drew⟩
              rw [HK.out]
              exact SS.drew ((((hv.setS 0 (.int .i64 0)).setS 1 (.int .i64 mk)).setS 0 (.int .i64 2)).setS 0 (.int .i64 1))
            case measure => simp [intOf]
        · obtain ⟨x0, x1, x2, x3, x4, x5⟩ := hv.s.c6
          obtain ⟨g0, _, _, _, _, _, _, _⟩ := hv.g.c8
          have fa := hv.s.frozen 2
          have fb := hv.s.frozen 3
          have m1 := hv.s.lt
          have m2 := hv.g.lt
          have m3 := hv.r.lt
          have ew : IntKind.i64.wrap (per - la 1) = per - la 1 := IntWalk.i64_in _ (by omega)
          obtain ⟨mk, hmk⟩ : ∃ m, min (per - la 1) 4096 = m := ⟨_, rfl⟩
          have hif : (if (4096 : Int) < per - la 1 then 4096 else per - la 1) = mk := by rw [← hmk]; split <;> omega
          have hcs : (c2 = true ∧ c3 = false ∧ y 1 = ⟨2, mk⟩) ∨ (c2 = false ∧ c3 = true ∧ y 1 = ⟨1, mk⟩) ∨ (c2 = false ∧ c3 = false ∧ y 1 = ⟨0, mk⟩) ∨ (c2 = true ∧ c3 = true ∧ y 1 = ⟨1, mk⟩) := by
            rw [HY1.out, hmk]
            cases c2 <;> cases c3 <;> simp
          have HCS := Lib.hid hcs
          clear hcs hmk
          rcases HCS.out with ⟨rfl, rfl, hyk⟩ | ⟨rfl, rfl, hyk⟩ | ⟨rfl, rfl, hyk⟩ | ⟨rfl, rfl, hyk⟩
          · have HK := Lib.hid hyk
            clear hyk HCS
            go_wp2
            go_region
            all_goals go_wp2
            all_goals go_roundw
            case rel =>
              refine ⟨(.inr (.inr (.inl ⟨rfl, ?_⟩))), (((gI.far (by simp <;> omega) _).far (by simp <;> omega) _).far (by simp <;> omega) _).drew, (((gL.far (by simp <;> omega) _).far (by simp <;> omega) _).far (by simp <;> omega) _).drew⟩
              rw [HK.out]
              exact SS.drew (((hv.setS 2 (.int .i64 0)).setS 3 (.int .i64 mk)).setS 2 (.int .i64 2))
            case measure => simp [intOf]
          · have HK := Lib.hid hyk
            clear hyk HCS
            go_wp2
            go_region
            all_goals go_wp2
            all_goals go_roundw
            case rel =>
              refine ⟨(.inr (.inr (.inl ⟨rfl, ?_⟩))), (((gI.far (by simp <;> omega) _).far (by simp <;> omega) _).far (by simp <;> omega) _).drew, (((gL.far (by simp <;> omega) _).far (by simp <;> omega) _).far (by simp <;> omega) _).drew⟩
              rw [HK.out]
              exact SS.drew (((hv.setS 2 (.int .i64 0)).setS 3 (.int .i64 mk)).setS 2 (.int .i64 1))
            case measure => simp [intOf]
          · have HK := Lib.hid hyk
            clear hyk HCS
            go_wp2
            go_region
            all_goals go_wp2
            all_goals go_roundw
            case rel =>
              refine ⟨(.inr (.inr (.inl ⟨rfl, ?_⟩))), ((gI.far (by simp <;> omega) _).far (by simp <;> omega) _).drew, ((gL.far (by simp <;> omega) _).far (by simp <;> omega) _).drew⟩
              rw [HK.out]
              exact SS.drew ((hv.setS 2 (.int .i64 0)).setS 3 (.int .i64 mk))
            case measure => simp [intOf]
          · have HK := Lib.hid hyk
            clear hyk HCS
            go_wp2
            go_region
            all_goals go_wp2
            all_goals go_roundw
            case rel =>
              refine ⟨(.inr (.inr (.inl ⟨rfl, ?_⟩))), ((((gI.far (by simp <;> omega) _).far (by simp <;> omega) _).far (by simp <;> omega) _).far (by simp <;> omega) _).drew, ((((gL.far (by simp <;> omega) _).far (by simp <;> omega) _).far (by simp <;> omega) _).far (by simp <;> omega) _).drew⟩
              rw [HK.out]
              exact SS.drew ((((hv.setS 2 (.int .i64 0)).setS 3 (.int .i64 mk)).setS 2 (.int .i64 2)).setS 2 (.int .i64 1))
            case measure => simp [intOf]
        · obtain ⟨x0, x1, x2, x3, x4, x5⟩ := hv.s.c6
          obtain ⟨g0, _, _, _, _, _, _, _⟩ := hv.g.c8
          have fa := hv.s.frozen 4
          have fb := hv.s.frozen 5
          have m1 := hv.s.lt
          have m2 := hv.g.lt
          have m3 := hv.r.lt
          have ew : IntKind.i64.wrap (per - la 2) = per - la 2 := IntWalk.i64_in _ (by omega)
          obtain ⟨mk, hmk⟩ : ∃ m, min (per - la 2) 4096 = m := ⟨_, rfl⟩
          have hif : (if (4096 : Int) < per - la 2 then 4096 else per - la 2) = mk := by rw [← hmk]; split <;> omega
          have hcs : (c4 = true ∧ c5 = false ∧ y 2 = ⟨2, mk⟩) ∨ (c4 = false ∧ c5 = true ∧ y 2 = ⟨1, mk⟩) ∨ (c4 = false ∧ c5 = false ∧ y 2 = ⟨0, mk⟩) ∨ (c4 = true ∧ c5 = true ∧ y 2 = ⟨1, mk⟩) := by
            rw [HY2.out, hmk]
            cases c4 <;> cases c5 <;> simp
          have HCS := Lib.hid hcs
          clear hcs hmk
          rcases HCS.out with ⟨rfl, rfl, hyk⟩ | ⟨rfl, rfl, hyk⟩ | ⟨rfl, rfl, hyk⟩ | ⟨rfl, rfl, hyk⟩
          · have HK := Lib.hid hyk
            clear hyk HCS
            go_wp2
            go_region
            all_goals go_wp2
            all_goals go_roundw
            case rel =>
              refine ⟨(.inr (.inr (.inr ⟨rfl, ?_⟩))), (((gI.far (by simp <;> omega) _).far (by simp <;> omega) _).far (by simp <;> omega) _).drew, (((gL.far (by simp <;> omega) _).far (by simp <;> omega) _).far (by simp <;> omega) _).drew⟩
              rw [HK.out]
              exact SS.drew (((hv.setS 4 (.int .i64 0)).setS 5 (.int .i64 mk)).setS 4 (.int .i64 2))
            case measure => simp [intOf]
          · have HK := Lib.hid hyk
            clear hyk HCS
            go_wp2
            go_region
            all_goals go_wp2
            all_goals go_roundw
            case rel =>
              refine ⟨(.inr (.inr (.inr ⟨rfl, ?_⟩))), (((gI.far (by simp <;> omega) _).far (by simp <;> omega) _).far (by simp <;> omega) _).drew, (((gL.far (by simp <;> omega) _).far (by simp <;> omega) _).far (by simp <;> omega) _).drew⟩
              rw [HK.out]
              exact SS.drew (((hv.setS 4 (.int .i64 0)).setS 5 (.int .i64 mk)).setS 4 (.int .i64 1))
            case measure => simp [intOf]
          · have HK := Lib.hid hyk
            clear hyk HCS
            go_wp2
            go_region
            all_goals go_wp2
            all_goals go_roundw
            case rel =>
              refine ⟨(.inr (.inr (.inr ⟨rfl, ?_⟩))), ((gI.far (by simp <;> omega) _).far (by simp <;> omega) _).drew, ((gL.far (by simp <;> omega) _).far (by simp <;> omega) _).drew⟩
              rw [HK.out]
              exact SS.drew ((hv.setS 4 (.int .i64 0)).setS 5 (.int .i64 mk))
            case measure => simp [intOf]
          · have HK := Lib.hid hyk
            clear hyk HCS
            go_wp2
            go_region
            all_goals go_wp2
            all_goals go_roundw
            case rel =>
              refine ⟨(.inr (.inr (.inr ⟨rfl, ?_⟩))), ((((gI.far (by simp <;> omega) _).far (by simp <;> omega) _).far (by simp <;> omega) _).far (by simp <;> omega) _).drew, ((((gL.far (by simp <;> omega) _).far (by simp <;> omega) _).far (by simp <;> omega) _).far (by simp <;> omega) _).drew⟩
              rw [HK.out]
              exact SS.drew ((((hv.setS 4 (.int .i64 0)).setS 5 (.int .i64 mk)).setS 4 (.int .i64 2)).setS 4 (.int .i64 1))
            case measure => simp [intOf]
        · obtain ⟨z0, z1, z2, z3, z4, z5⟩ := hv.r.c6
          obtain ⟨x0, x1, x2, x3, x4, x5⟩ := hv.s.c6
          have fz0 := hv.r.frozen 0
          have fz1 := hv.r.frozen 1
          have fz2 := hv.r.frozen 2
          have fz3 := hv.r.frozen 3
          have fz4 := hv.r.frozen 4
          have fz5 := hv.r.frozen 5
          have m1 := hv.s.lt
          have m3 := hv.r.lt
          go_wp2
          go_region
          all_goals go_wp2
          all_goals
            refine bodyPost_ret (ret_tct rfl rfl (load_legs (Blk.drew ((((((hv.r.set_ 0 _).set_ 1 _).set_ 2 _).set_ 3 _).set_ 4 _).set_ 5 _)))) rfl ⟨(fun h => by rw [HF.out] at h; cases h), (fun σ' h => ?_), ?_⟩
            · rw [HF.out] at h
              injection h with h
              subst h
              rw [HY.out]
              rfl
            · exact ((((((hv.b.setCell (by simp <;> omega) _).setCell (by simp <;> omega) _).setCell (by simp <;> omega) _).setCell (by simp <;> omega) _).setCell (by simp <;> omega) _).setCell (by simp <;> omega) _).drew

end Go.Proofs.Ytgnojdiecgfeaaa
