/- The walk of layer 24's Times. -/
import Derived.Test.YtgnojdiecgfeaaaSorted
import Derived.Test.YtgnojdiecgfeaaaAt
namespace Go.Proofs.Ytgnojdiecgfeaaa
open Go.RowKit

/-- Which of the three numbers of a leg grows in a state. -/
def selB (l j : Nat) (b : List Bool) : Bool :=
  match j with
  | 0 => b.getD (2 * l) false
  | 1 => b.getD (2 * l + 1) false
  | _ => !b.getD (2 * l) false && !b.getD (2 * l + 1) false
def addC (l j : Nat) (b : List Bool) : Int := if selB l j b then 1 else 0
/-- The number after k counts. -/
def tmR (on : List Bool) (es : List Ed) (l j k : Nat) : Int := cnt (fun t => selB l j (onAt on es t)) 0 k
theorem tmR_succ {on : List Bool} {es : List Ed} {l j k : Nat} {b : List Bool} (h : onAt on es (k : Int) = b) : tmR on es l j (k + 1) = tmR on es l j k + addC l j b := by
  subst h
  unfold tmR addC
  simp only [cnt, Int.zero_add]
theorem tmR_bd (on : List Bool) (es : List Ed) (l j k : Nat) : 0 ≤ tmR on es l j k ∧ tmR on es l j k ≤ k := cnt_nonneg _ _ _
def tms (per : Int) (on : List Bool) (es : List Ed) (l j : Nat) : Int := if chk per es = 0 then tmR on es l j per.toNat else 0
theorem load_33 {w : World} {g : Nat} {t : TypeId} {a0 a1 a2 a3 a4 a5 a6 a7 a8 : Value} (h : Blk w g t #[a0, a1, a2, a3, a4, a5, a6, a7, a8]) : (loadVar 66 ⟨g, 0, none⟩).run Try.prog w = .ok (.agg #[a0, a1, a2, a3, a4, a5, a6, a7, a8]) w := by
  obtain ⟨k0, k1, k2, k3, k4, k5, k6, k7, k8⟩ := h.c9
  simp [go_sem, k0, k1, k2, k3, k4, k5, k6, k7, k8]

/-- Where no further edge lies at the count, the state is that of the count, and all further edges lie behind it. -/
theorem adv_done {per : Int} {on st : List Bool} {es : List Ed} {j k : Nat} (hv : Valid per es) (hst : (es.take j).foldl step on = st) (h1 : ∀ i e, i < j → es[i]? = some e → e.t ≤ (k : Int)) (h2 : ∀ i e, j ≤ i → es[i]? = some e → (k : Int) ≤ e.t)
    (hno : ¬ ∃ e, es[j]? = some e ∧ e.t = (k : Int)) : onAt on es (k : Int) = st ∧ ∀ i e, j ≤ i → es[i]? = some e → ((k + 1 : Nat) : Int) ≤ e.t := by
  have hlate : ∀ i e, j ≤ i → es[i]? = some e → ((k + 1 : Nat) : Int) ≤ e.t := fun i e hi he => by
    have h3 := h2 i e hi he
    by_cases hij : i = j
    · subst hij
      have : e.t ≠ (k : Int) := fun h => hno ⟨e, he, h⟩
      omega
    · have hjl := (List.getElem?_eq_some_iff.1 he).1
      have h4 := hv.later (List.getElem?_eq_getElem (show j < es.length by omega)) i e (by omega) he
      have h5 := h2 j _ (Nat.le_refl _) (List.getElem?_eq_getElem (show j < es.length by omega))
      have : (es[j]'(by omega)).t ≠ (k : Int) := fun h => hno ⟨_, List.getElem?_eq_getElem (by omega), h⟩
      omega
  refine ⟨?_, hlate⟩
  rw [onAt_take es k j (fun i hi e he => h1 i e hi he) (fun i hi e he => by have := hlate i e hi he; omega), hst]

set_option maxRecDepth 100000 in
set_option maxHeartbeats 3200000 in
theorem times_walk (per : Int) (b0 b1 b2 b3 b4 b5 : Bool) (A : Option Addr) (n c : Nat) (es : List Ed) (w : World) (hE : Sl w w.heap.size 3 A (es.map Ed.row)) (hn : n = es.length) (hm : n ≤ 1000000) :
    Calls Try.prog 39 #[.agg #[.int .i64 per, .bool b0, .bool b1, .bool b2, .bool b3, .bool b4, .bool b5, .slice A n c]] w fun e w' =>
      e = .returned (.tuple #[.agg #[.int .i64 (tms per [b0, b1, b2, b3, b4, b5] es 0 0), .int .i64 (tms per [b0, b1, b2, b3, b4, b5] es 0 1), .int .i64 (tms per [b0, b1, b2, b3, b4, b5] es 0 2), .int .i64 (tms per [b0, b1, b2, b3, b4, b5] es 1 0), .int .i64 (tms per [b0, b1, b2, b3, b4, b5] es 1 1), .int .i64 (tms per [b0, b1, b2, b3, b4, b5] es 1 2), .int .i64 (tms per [b0, b1, b2, b3, b4, b5] es 2 0), .int .i64 (tms per [b0, b1, b2, b3, b4, b5] es 2 1), .int .i64 (tms per [b0, b1, b2, b3, b4, b5] es 2 2)], errV (chk per es)]) ∧ Below w.heap.size w w' := by
  have HN := Lib.hid hn
  clear hn
  have hb0 := ((Below.refl w.heap.size w).alloc (Nat.le_refl _) (.cells #[.int .i64 per, .bool b0, .bool b1, .bool b2, .bool b3, .bool b4, .bool b5, .slice A n c] 25)).alloc (by simp) (.cells #[.int .i64 0, .int .i64 0, .int .i64 0, .int .i64 0, .int .i64 0, .int .i64 0, .int .i64 0, .int .i64 0, .int .i64 0] 66)
  have g0 := (Blk.new w 25 #[.int .i64 per, .bool b0, .bool b1, .bool b2, .bool b3, .bool b4, .bool b5, .slice A n c]).alloc (.cells #[.int .i64 0, .int .i64 0, .int .i64 0, .int .i64 0, .int .i64 0, .int .i64 0, .int .i64 0, .int .i64 0, .int .i64 0] 66)
  have g1 := Blk.new' (w := w.alloc (.cells #[.int .i64 per, .bool b0, .bool b1, .bool b2, .bool b3, .bool b4, .bool b5, .slice A n c] 25)) (t := 66) (cs := #[.int .i64 0, .int .i64 0, .int .i64 0, .int .i64 0, .int .i64 0, .int .i64 0, .int .i64 0, .int .i64 0, .int .i64 0]) (g := w.heap.size + 1) (by simp)
  obtain ⟨r0, r1, r2, r3, r4, r5, r6, r7, r8⟩ := g1.c9
  have q0 := g1.frozen 0
  rcases Bool.eq_false_or_eq_true (perOk per) with hp | hp
  case inr =>
    have hc3 : chk per es = 3 := chk_range hp
    have HC := Lib.hid hc3
    have HP := Lib.hid hp
    clear hc3 hp r0 r1 r2 r3 r4 r5 r6 r7 r8 q0
    go_enter Try.func39, Try.ntmps39
    go_wp2_with fail
    refine (isPeriod_walk per _).mono ?_
    rintro e w1 ⟨rfl, rfl⟩
    rw [HP.out]
    go_wp2
    refine bodyPost_ret (ret_cell_tmp rfl rfl (load_33 g1)) rfl ⟨?_, hb0⟩
    simp only [tms, HC.out]
    rfl
  case inl =>
    have hp' : 64 ≤ per ∧ per ≤ 4096 := by simpa [perOk] using hp
    obtain ⟨hp1, hp2⟩ := hp'
    have hsw := sorted_walk per A n c es _ ((hE.below hb0).more hb0.size) HN.out hm hp1 hp2
    obtain ⟨sh, hsh⟩ : ∃ sh, shape per es = sh := ⟨_, rfl⟩
    rw [hsh] at hsw
    have HSW := hide hsw
    have HSH := Lib.hid hsh
    have HP := Lib.hid hp
    clear hsw hsh hp r0 r1 r2 r3 r4 r5 r6 r7 r8 q0
    go_enter Try.func39, Try.ntmps39
    go_wp2_with fail
    refine (isPeriod_walk per _).mono ?_
    rintro e w1 ⟨rfl, rfl⟩
    rw [HP.out]
    go_wp2_with fail
    refine (unhide HSW).mono ?_
    rintro e w1 ⟨rfl, hb1⟩
    have hb2 := hb0.trans (hb1.mono hb0.size)
    have g01 := g0.below hb1 g0.lt
    have g11 := g1.below hb1 g1.lt
    have l0 := g01.lt
    have l1 := g11.lt
    clear hb0 hb1 g0 g1 HSW
    cases sh
    case false =>
      have hc : Hid (chk per es = 11) := by show _ = _; unfold chk; rw [HP.out, HSH.out]; rfl
      obtain ⟨z0, z1, z2, z3, z4, z5, z6, z7, z8⟩ := g11.c9
      have f0 := g11.frozen 0
      have f1 := g11.frozen 1
      have f2 := g11.frozen 2
      have f3 := g11.frozen 3
      have f4 := g11.frozen 4
      have f5 := g11.frozen 5
      have f6 := g11.frozen 6
      have f7 := g11.frozen 7
      have f8 := g11.frozen 8
      go_wp2
      refine bodyPost_ret (ret_cell_tmp rfl rfl (load_33 (((((((((g11.set_ 0 _).set_ 1 _).set_ 2 _).set_ 3 _).set_ 4 _).set_ 5 _).set_ 6 _).set_ 7 _).set_ 8 _))) rfl ⟨?_, ?_⟩
      · simp only [tms, hc.out]
        rfl
      · exact ((((((((hb2.setCell (Nat.le_succ _) _).setCell (Nat.le_succ _) _).setCell (Nat.le_succ _) _).setCell (Nat.le_succ _) _).setCell (Nat.le_succ _) _).setCell (Nat.le_succ _) _).setCell (Nat.le_succ _) _).setCell (Nat.le_succ _) _).setCell (Nat.le_succ _) _
    case true =>
      have hc0 : chk per es = 0 := by unfold chk; rw [HP.out, HSH.out]; rfl
      obtain ⟨_, _, hv⟩ := chk_zero hc0
      have HC := Lib.hid hc0
      clear hc0
      obtain ⟨x0, x1, x2, x3, x4, x5, x6, x7⟩ := g01.c8
      go_wp2
      go_loopw [6, 27] (fun x i wr => ∃ (k j : Nat) (c0 c1 c2 c3 c4 c5 : Bool) (s00 s01 s02 s10 s11 s12 s20 s21 s22 : Int), (k : Int) ≤ per ∧ j ≤ n ∧ i = .int .i64 k ∧ x = .int .i64 j ∧
      Hid ((es.take j).foldl step [b0, b1, b2, b3, b4, b5] = [c0, c1, c2, c3, c4, c5]) ∧ Hid (∀ i e, i < j → es[i]? = some e → e.t < k) ∧ Hid (∀ i e, j ≤ i → es[i]? = some e → (k : Int) ≤ e.t) ∧
      Hid (tmR [b0, b1, b2, b3, b4, b5] es 0 0 k = s00) ∧ Hid (tmR [b0, b1, b2, b3, b4, b5] es 0 1 k = s01) ∧ Hid (tmR [b0, b1, b2, b3, b4, b5] es 0 2 k = s02) ∧ Hid (tmR [b0, b1, b2, b3, b4, b5] es 1 0 k = s10) ∧ Hid (tmR [b0, b1, b2, b3, b4, b5] es 1 1 k = s11) ∧ Hid (tmR [b0, b1, b2, b3, b4, b5] es 1 2 k = s12) ∧ Hid (tmR [b0, b1, b2, b3, b4, b5] es 2 0 k = s20) ∧ Hid (tmR [b0, b1, b2, b3, b4, b5] es 2 1 k = s21) ∧ Hid (tmR [b0, b1, b2, b3, b4, b5] es 2 2 k = s22) ∧
      Blk wr w1.heap.size 66 #[.int .i64 s00, .int .i64 s01, .int .i64 s02, .int .i64 s10, .int .i64 s11, .int .i64 s12, .int .i64 s20, .int .i64 s21, .int .i64 s22] ∧ Blk wr (w1.heap.size + 1) 22 #[.bool c0, .bool c1, .bool c2, .bool c3, .bool c4, .bool c5] ∧
      Blk wr w.heap.size 25 #[.int .i64 per, .bool b0, .bool b1, .bool b2, .bool b3, .bool b4, .bool b5, .slice A n c] ∧ Blk wr (w.heap.size + 1) 66 #[.int .i64 0, .int .i64 0, .int .i64 0, .int .i64 0, .int .i64 0, .int .i64 0, .int .i64 0, .int .i64 0, .int .i64 0] ∧ Below w.heap.size w wr) (fun _ i _ => (per - intOf i).toNat)
      case atStart =>
        refine ⟨0, 0, b0, b1, b2, b3, b4, b5, 0, 0, 0, 0, 0, 0, 0, 0, 0, by omega, Nat.zero_le _, rfl, rfl, rfl, (fun i e h => by omega), (fun i e _ he => ?_), rfl, rfl, rfl, rfl, rfl, rfl, rfl, rfl, rfl, (Blk.new' rfl).alloc _, Blk.new' (by simp), (g01.alloc _).alloc _, (g11.alloc _).alloc _, (hb2.alloc hb2.size _).alloc (by simp; omega) _⟩
        obtain ⟨h1, rfl⟩ := List.getElem?_eq_some_iff.1 he
        exact (hv.ins i h1).1
      case round =>
        clear g01 g11 hb2 x0 x1 x2 x3 x4 x5 x6 x7
        obtain ⟨k, j, c0, c1, c2, c3, c4, c5, s00, s01, s02, s10, s11, s12, s20, s21, s22, hk, hj, rfl, rfl, hst, hearly, hlate, hs00, hs01, hs02, hs10, hs11, hs12, hs20, hs21, hs22, hout, hblk, hbox, hres, hb⟩ := hrel
        obtain ⟨wo, rfl⟩ : ∃ wo : World, wo = wr := ⟨_, rfl⟩
        by_cases hlt : (k : Int) < per
        case pos =>
          have bd00 := tmR_bd [b0, b1, b2, b3, b4, b5] es 0 0 k
          have bd01 := tmR_bd [b0, b1, b2, b3, b4, b5] es 0 1 k
          have bd02 := tmR_bd [b0, b1, b2, b3, b4, b5] es 0 2 k
          have bd10 := tmR_bd [b0, b1, b2, b3, b4, b5] es 1 0 k
          have bd11 := tmR_bd [b0, b1, b2, b3, b4, b5] es 1 1 k
          have bd12 := tmR_bd [b0, b1, b2, b3, b4, b5] es 1 2 k
          have bd20 := tmR_bd [b0, b1, b2, b3, b4, b5] es 2 0 k
          have bd21 := tmR_bd [b0, b1, b2, b3, b4, b5] es 2 1 k
          have bd22 := tmR_bd [b0, b1, b2, b3, b4, b5] es 2 2 k
          rw [hs00.out] at bd00
          rw [hs01.out] at bd01
          rw [hs02.out] at bd02
          rw [hs10.out] at bd10
          rw [hs11.out] at bd11
          rw [hs12.out] at bd12
          rw [hs20.out] at bd20
          rw [hs21.out] at bd21
          rw [hs22.out] at bd22
          obtain ⟨bl00, bu00⟩ := bd00
          obtain ⟨bl01, bu01⟩ := bd01
          obtain ⟨bl02, bu02⟩ := bd02
          obtain ⟨bl10, bu10⟩ := bd10
          obtain ⟨bl11, bu11⟩ := bd11
          obtain ⟨bl12, bu12⟩ := bd12
          obtain ⟨bl20, bu20⟩ := bd20
          obtain ⟨bl21, bu21⟩ := bd21
          obtain ⟨bl22, bu22⟩ := bd22
          go_wp2
          go_loopw [6] (fun x wr => ∃ (j : Nat) (c0 c1 c2 c3 c4 c5 : Bool), j ≤ n ∧ x = .int .i64 j ∧
          Hid ((es.take j).foldl step [b0, b1, b2, b3, b4, b5] = [c0, c1, c2, c3, c4, c5]) ∧ Hid (∀ i e, i < j → es[i]? = some e → e.t ≤ k) ∧ Hid (∀ i e, j ≤ i → es[i]? = some e → (k : Int) ≤ e.t) ∧
          Blk wr w1.heap.size 66 #[.int .i64 s00, .int .i64 s01, .int .i64 s02, .int .i64 s10, .int .i64 s11, .int .i64 s12, .int .i64 s20, .int .i64 s21, .int .i64 s22] ∧ Blk wr (w1.heap.size + 1) 22 #[.bool c0, .bool c1, .bool c2, .bool c3, .bool c4, .bool c5] ∧ Blk wr w.heap.size 25 #[.int .i64 per, .bool b0, .bool b1, .bool b2, .bool b3, .bool b4, .bool b5, .slice A n c] ∧ Blk wr (w.heap.size + 1) 66 #[.int .i64 0, .int .i64 0, .int .i64 0, .int .i64 0, .int .i64 0, .int .i64 0, .int .i64 0, .int .i64 0, .int .i64 0] ∧ Below w.heap.size w wr) (fun x _ => n - (intOf x).toNat)
          case atStart => exact ⟨j, c0, c1, c2, c3, c4, c5, hj, rfl, hst, (fun i e h1 h2 => by have := hearly.out i e h1 h2; omega), hlate, hout, hblk, hbox, hres, hb⟩
          case round =>
            clear hst hearly hlate hout hblk hbox hres hb
            obtain ⟨j, c0, c1, c2, c3, c4, c5, hj, rfl, hst, hearly, hlate, hout, hblk, hbox, hres, hb⟩ := hrel
            have h7 := hbox.c8.2.2.2.2.2.2.2
            have hsz : w1.heap.size + 1 < wr.heap.size := hblk.lt
            obtain ⟨k0, k1, k2, k3, k4, k5⟩ := hblk.c6
            by_cases hgo : ∃ e, es[j]? = some e ∧ e.t = (k : Int)
            case pos =>
              obtain ⟨e, he, hek⟩ := hgo
              have hjl := (List.getElem?_eq_some_iff.1 he).1
              have hjn : j < n := by have := HN.out; omega
              obtain ⟨ad, p, rfl, hpa, hpb, e0, e1, e2⟩ := (hE.below hb).three (k := j) (x := .int .i64 (k : Int)) (y := .int .i64 e.s) (z := .bool e.o) (by rw [List.getElem?_map, he, ← hek]; rfl)
              have hpb1 : p.block < wr.heap.size := by omega
              obtain ⟨hin3, hin4⟩ : 0 ≤ e.s ∧ e.s ≤ 5 := by
                obtain ⟨h1, rfl⟩ := List.getElem?_eq_some_iff.1 he
                exact (hv.ins j h1).2.2
              obtain ⟨d0, d1, d2, d3, d4, d5, hs1, hs2, x, hx⟩ := six_set c0 c1 c2 c3 c4 c5 e.o e.s.toNat (by omega)
              have HE := Lib.hid he
              have HEK := Lib.hid hek
              have HS1 := Lib.hid hs1
              have HS2 := Lib.hid hs2
              clear hs1 hs2 he hek
              have hcx := hblk.cell e.s.toNat
              rw [hx] at hcx
              have hfx := hblk.frozen e.s.toNat
              clear hx
              go_wp2
              go_region
              all_goals go_wp2
              all_goals go_roundw
              case rel =>
                refine ⟨j + 1, d0, d1, d2, d3, d4, d5, by omega, by go_num, ?_, ?_, ?_, hout.far (by simp) _, ?_, hbox.far (by simp; omega) _, hres.far (by simp; omega) _, (hb.setCell (by simp; omega) _).drew⟩
                · show _ = _
                  rw [fold_take HE.out, hst.out, ← HS2.out]; rfl
                · intro i x' h1 h2
                  by_cases hij : i = j
                  · subst hij
                    rw [HE.out] at h2
                    injection h2 with h2
                    subst h2
                    exact Int.le_of_eq HEK.out
                  · exact hearly.out i x' (by omega) h2
                · exact fun i x' h1 h2 => hlate.out i x' (by omega) h2
                · rw [← HS1.out]; exact hblk.set_ _ _
              case measure => simp [intOf]; omega
            case neg =>
              obtain ⟨HR, hlate2⟩ := adv_done hv hst.out (fun i e hi he => hearly.out i e hi he) (fun i e hi he => hlate.out i e hi he) hgo
              have hcase : (∃ e, j < n ∧ es[j]? = some e ∧ (e.t == (k : Int)) = false) ∨ n ≤ j := by
                by_cases hjn : j < n
                · have hjl : j < es.length := by have := HN.out; omega
                  refine .inl ⟨_, hjn, List.getElem?_eq_getElem hjl, ?_⟩
                  rw [beq_eq_false_iff_ne]
                  exact fun h => hgo ⟨_, List.getElem?_eq_getElem hjl, h⟩
                · exact .inr (by omega)
              have HRR := Lib.hid HR
              have HLL := Lib.hid hlate2
              clear hgo HR hlate2
              have hend : Hid (n ≤ j ∨ (∃ e ad p, j < n ∧ (e.t == (k : Int)) = false ∧ A = some ad ∧ ad.add (j * 3) = p ∧ wr.cell? p = some (.int .i64 (Ed.t e)))) := by
                rcases hcase with ⟨e, hjn, he, hek⟩ | hjn
                · obtain ⟨ad, p, hA, hpa, hpb, e0, e1, e2⟩ := (hE.below hb).three (k := j) (x := .int .i64 e.t) (y := .int .i64 e.s) (z := .bool e.o) (by rw [List.getElem?_map, he]; rfl)
                  exact .inr ⟨e, ad, p, hjn, hek, hA, hpa, e0⟩
                · exact .inl hjn
              clear hcase
              obtain ⟨SL, hSL⟩ : ∃ SL, SL = Value.slice A n c := ⟨_, rfl⟩
              have hboxS : Blk wr w.heap.size 25 #[.int .i64 per, .bool b0, .bool b1, .bool b2, .bool b3, .bool b4, .bool b5, SL] := by rw [hSL]; exact hbox
              have HSL := Lib.hid hSL
              clear hSL
              rcases hend.out with hnj | ⟨e, ad, p, hjn, hek, rfl, hpa, e0⟩
              all_goals
                clear hend
                first
                | (have hdj : decide (j < n) = false := decide_eq_false (by omega)
                   clear hnj)
                | skip
                go_wp2
                clear k0 k1 k2 k3 k4 k5 h7
                go_loopw [60] (fun i wr => ((i = .int .i64 0 ∧ Blk wr w1.heap.size 66 #[.int .i64 s00, .int .i64 s01, .int .i64 s02, .int .i64 s10, .int .i64 s11, .int .i64 s12, .int .i64 s20, .int .i64 s21, .int .i64 s22]) ∨ (i = .int .i64 1 ∧ Blk wr w1.heap.size 66 #[.int .i64 (s00 + addC 0 0 [c0, c1, c2, c3, c4, c5]), .int .i64 (s01 + addC 0 1 [c0, c1, c2, c3, c4, c5]), .int .i64 (s02 + addC 0 2 [c0, c1, c2, c3, c4, c5]), .int .i64 s10, .int .i64 s11, .int .i64 s12, .int .i64 s20, .int .i64 s21, .int .i64 s22]) ∨ (i = .int .i64 2 ∧ Blk wr w1.heap.size 66 #[.int .i64 (s00 + addC 0 0 [c0, c1, c2, c3, c4, c5]), .int .i64 (s01 + addC 0 1 [c0, c1, c2, c3, c4, c5]), .int .i64 (s02 + addC 0 2 [c0, c1, c2, c3, c4, c5]), .int .i64 (s10 + addC 1 0 [c0, c1, c2, c3, c4, c5]), .int .i64 (s11 + addC 1 1 [c0, c1, c2, c3, c4, c5]), .int .i64 (s12 + addC 1 2 [c0, c1, c2, c3, c4, c5]), .int .i64 s20, .int .i64 s21, .int .i64 s22]) ∨ (i = .int .i64 3 ∧ Blk wr w1.heap.size 66 #[.int .i64 (s00 + addC 0 0 [c0, c1, c2, c3, c4, c5]), .int .i64 (s01 + addC 0 1 [c0, c1, c2, c3, c4, c5]), .int .i64 (s02 + addC 0 2 [c0, c1, c2, c3, c4, c5]), .int .i64 (s10 + addC 1 0 [c0, c1, c2, c3, c4, c5]), .int .i64 (s11 + addC 1 1 [c0, c1, c2, c3, c4, c5]), .int .i64 (s12 + addC 1 2 [c0, c1, c2, c3, c4, c5]), .int .i64 (s20 + addC 2 0 [c0, c1, c2, c3, c4, c5]), .int .i64 (s21 + addC 2 1 [c0, c1, c2, c3, c4, c5]), .int .i64 (s22 + addC 2 2 [c0, c1, c2, c3, c4, c5])])) ∧ Blk wr (w1.heap.size + 1) 22 #[.bool c0, .bool c1, .bool c2, .bool c3, .bool c4, .bool c5] ∧ Blk wr w.heap.size 25 #[.int .i64 per, .bool b0, .bool b1, .bool b2, .bool b3, .bool b4, .bool b5, SL] ∧ Blk wr (w.heap.size + 1) 66 #[.int .i64 0, .int .i64 0, .int .i64 0, .int .i64 0, .int .i64 0, .int .i64 0, .int .i64 0, .int .i64 0, .int .i64 0] ∧ Below w.heap.size w wr) (fun i _ => 3 - (intOf i).toNat)
                case atStart => exact ⟨.inl ⟨rfl, hout⟩, hblk, hboxS, hres, hb⟩
                case round =>
                  clear hout hblk hbox hboxS hres hb
                  obtain ⟨hd, hblk, hbox, hres, hb⟩ := hrel
                  have hsz2 : w1.heap.size + 1 < wr.heap.size := hblk.lt
                  rcases hd with ⟨rfl, ho⟩ | ⟨rfl, ho⟩ | ⟨rfl, ho⟩ | ⟨rfl, ho⟩
                  · obtain ⟨k0, k1, k2, k3, k4, k5⟩ := hblk.c6
                    obtain ⟨z0, z1, z2, z3, z4, z5, z6, z7, z8⟩ := ho.c9
                    have f0 := ho.frozen 0
                    have f1 := ho.frozen 1
                    have f2 := ho.frozen 2
                    have hx : (c0 = true ∧ c1 = true) ∨ (c0 = true ∧ c1 = false) ∨ (c0 = false ∧ c1 = true) ∨ (c0 = false ∧ c1 = false) := by cases c0 <;> cases c1 <;> simp
                    rcases hx with ⟨rfl, rfl⟩ | ⟨rfl, rfl⟩ | ⟨rfl, rfl⟩ | ⟨rfl, rfl⟩
                    · have a0 : addC 0 0 [true, true, c2, c3, c4, c5] = 1 := rfl
                      have a1 : addC 0 1 [true, true, c2, c3, c4, c5] = 1 := rfl
                      have a2 : addC 0 2 [true, true, c2, c3, c4, c5] = 0 := rfl
                      have A0 := Lib.hid a0
                      have A1 := Lib.hid a1
                      have A2 := Lib.hid a2
                      clear a0 a1 a2
                      go_wp2
                      go_region
                      all_goals go_wp2
                      all_goals go_region
                      all_goals go_wp2
                      all_goals go_roundw
                      case rel =>
                        refine ⟨.inr (.inl ⟨rfl, ?_⟩), ((hblk.far (by simp) _).far (by simp) _), ((hbox.far (by simp; omega) _).far (by simp; omega) _), ((hres.far (by simp; omega) _).far (by simp; omega) _), ((hb.setCell (by simp; omega) _).setCell (by simp; omega) _).drew.drew⟩
                        rw [A0.out, A1.out, A2.out]
                        simpa using ((ho.set_ 0 _).set_ 1 _).drew.drew
                      case measure => simp [intOf]
                    · have a0 : addC 0 0 [true, false, c2, c3, c4, c5] = 1 := rfl
                      have a1 : addC 0 1 [true, false, c2, c3, c4, c5] = 0 := rfl
                      have a2 : addC 0 2 [true, false, c2, c3, c4, c5] = 0 := rfl
                      have A0 := Lib.hid a0
                      have A1 := Lib.hid a1
                      have A2 := Lib.hid a2
                      clear a0 a1 a2
                      go_wp2
                      go_region
                      all_goals go_wp2
                      all_goals go_roundw
                      case rel =>
                        refine ⟨.inr (.inl ⟨rfl, ?_⟩), (hblk.far (by simp) _), (hbox.far (by simp; omega) _), (hres.far (by simp; omega) _), (hb.setCell (by simp; omega) _).drew⟩
                        rw [A0.out, A1.out, A2.out]
                        simpa using (ho.set_ 0 _).drew
                      case measure => simp [intOf]
                    · have a0 : addC 0 0 [false, true, c2, c3, c4, c5] = 0 := rfl
                      have a1 : addC 0 1 [false, true, c2, c3, c4, c5] = 1 := rfl
                      have a2 : addC 0 2 [false, true, c2, c3, c4, c5] = 0 := rfl
                      have A0 := Lib.hid a0
                      have A1 := Lib.hid a1
                      have A2 := Lib.hid a2
                      clear a0 a1 a2
                      go_wp2
                      go_region
                      all_goals go_wp2
                      all_goals go_roundw
                      case rel =>
                        refine ⟨.inr (.inl ⟨rfl, ?_⟩), (hblk.far (by simp) _), (hbox.far (by simp; omega) _), (hres.far (by simp; omega) _), (hb.setCell (by simp; omega) _).drew⟩
                        rw [A0.out, A1.out, A2.out]
                        simpa using (ho.set_ 1 _).drew
                      case measure => simp [intOf]
                    · have a0 : addC 0 0 [false, false, c2, c3, c4, c5] = 0 := rfl
                      have a1 : addC 0 1 [false, false, c2, c3, c4, c5] = 0 := rfl
                      have a2 : addC 0 2 [false, false, c2, c3, c4, c5] = 1 := rfl
                      have A0 := Lib.hid a0
                      have A1 := Lib.hid a1
                      have A2 := Lib.hid a2
                      clear a0 a1 a2
                      go_wp2
                      go_region
                      all_goals go_wp2
                      all_goals go_roundw
                      case rel =>
                        refine ⟨.inr (.inl ⟨rfl, ?_⟩), (hblk.far (by simp) _), (hbox.far (by simp; omega) _), (hres.far (by simp; omega) _), (hb.setCell (by simp; omega) _).drew⟩
                        rw [A0.out, A1.out, A2.out]
                        simpa using (ho.set_ 2 _).drew
                      case measure => simp [intOf]
                  · obtain ⟨k0, k1, k2, k3, k4, k5⟩ := hblk.c6
                    obtain ⟨z0, z1, z2, z3, z4, z5, z6, z7, z8⟩ := ho.c9
                    have f0 := ho.frozen 3
                    have f1 := ho.frozen 4
                    have f2 := ho.frozen 5
                    have hx : (c2 = true ∧ c3 = true) ∨ (c2 = true ∧ c3 = false) ∨ (c2 = false ∧ c3 = true) ∨ (c2 = false ∧ c3 = false) := by cases c2 <;> cases c3 <;> simp
                    rcases hx with ⟨rfl, rfl⟩ | ⟨rfl, rfl⟩ | ⟨rfl, rfl⟩ | ⟨rfl, rfl⟩
                    · have a0 : addC 1 0 [c0, c1, true, true, c4, c5] = 1 := rfl
                      have a1 : addC 1 1 [c0, c1, true, true, c4, c5] = 1 := rfl
                      have a2 : addC 1 2 [c0, c1, true, true, c4, c5] = 0 := rfl
                      have A0 := Lib.hid a0
                      have A1 := Lib.hid a1
                      have A2 := Lib.hid a2
                      clear a0 a1 a2
                      go_wp2
                      go_region
                      all_goals go_wp2
                      all_goals go_region
                      all_goals go_wp2
                      all_goals go_roundw
                      case rel =>
                        refine ⟨.inr (.inr (.inl ⟨rfl, ?_⟩)), ((hblk.far (by simp) _).far (by simp) _), ((hbox.far (by simp; omega) _).far (by simp; omega) _), ((hres.far (by simp; omega) _).far (by simp; omega) _), ((hb.setCell (by simp; omega) _).setCell (by simp; omega) _).drew.drew⟩
                        rw [A0.out, A1.out, A2.out]
                        simpa using ((ho.set_ 3 _).set_ 4 _).drew.drew
                      case measure => simp [intOf]
                    · have a0 : addC 1 0 [c0, c1, true, false, c4, c5] = 1 := rfl
                      have a1 : addC 1 1 [c0, c1, true, false, c4, c5] = 0 := rfl
                      have a2 : addC 1 2 [c0, c1, true, false, c4, c5] = 0 := rfl
                      have A0 := Lib.hid a0
                      have A1 := Lib.hid a1
                      have A2 := Lib.hid a2
                      clear a0 a1 a2
                      go_wp2
                      go_region
                      all_goals go_wp2
                      all_goals go_roundw
                      case rel =>
                        refine ⟨.inr (.inr (.inl ⟨rfl, ?_⟩)), (hblk.far (by simp) _), (hbox.far (by simp; omega) _), (hres.far (by simp; omega) _), (hb.setCell (by simp; omega) _).drew⟩
                        rw [A0.out, A1.out, A2.out]
                        simpa using (ho.set_ 3 _).drew
                      case measure => simp [intOf]
                    · have a0 : addC 1 0 [c0, c1, false, true, c4, c5] = 0 := rfl
                      have a1 : addC 1 1 [c0, c1, false, true, c4, c5] = 1 := rfl
                      have a2 : addC 1 2 [c0, c1, false, true, c4, c5] = 0 := rfl
                      have A0 := Lib.hid a0
                      have A1 := Lib.hid a1
                      have A2 := Lib.hid a2
                      clear a0 a1 a2
                      go_wp2
                      go_region
                      all_goals go_wp2
                      all_goals go_roundw
                      case rel =>
                        refine ⟨.inr (.inr (.inl ⟨rfl, ?_⟩)), (hblk.far (by simp) _), (hbox.far (by simp; omega) _), (hres.far (by simp; omega) _), (hb.setCell (by simp; omega) _).drew⟩
                        rw [A0.out, A1.out, A2.out]
                        simpa using (ho.set_ 4 _).drew
                      case measure => simp [intOf]
                    · have a0 : addC 1 0 [c0, c1, false, false, c4, c5] = 0 := rfl
                      have a1 : addC 1 1 [c0, c1, false, false, c4, c5] = 0 := rfl
                      have a2 : addC 1 2 [c0, c1, false, false, c4, c5] = 1 := rfl
                      have A0 := Lib.hid a0
                      have A1 := Lib.hid a1
                      have A2 := Lib.hid a2
                      clear a0 a1 a2
                      go_wp2
                      go_region
                      all_goals go_wp2
                      all_goals go_roundw
                      case rel =>
                        refine ⟨.inr (.inr (.inl ⟨rfl, ?_⟩)), (hblk.far (by simp) _), (hbox.far (by simp; omega) _), (hres.far (by simp; omega) _), (hb.setCell (by simp; omega) _).drew⟩
                        rw [A0.out, A1.out, A2.out]
                        simpa using (ho.set_ 5 _).drew
                      case measure => simp [intOf]
                  · obtain ⟨k0, k1, k2, k3, k4, k5⟩ := hblk.c6
                    obtain ⟨z0, z1, z2, z3, z4, z5, z6, z7, z8⟩ := ho.c9
                    have f0 := ho.frozen 6
                    have f1 := ho.frozen 7
                    have f2 := ho.frozen 8
                    have hx : (c4 = true ∧ c5 = true) ∨ (c4 = true ∧ c5 = false) ∨ (c4 = false ∧ c5 = true) ∨ (c4 = false ∧ c5 = false) := by cases c4 <;> cases c5 <;> simp
                    rcases hx with ⟨rfl, rfl⟩ | ⟨rfl, rfl⟩ | ⟨rfl, rfl⟩ | ⟨rfl, rfl⟩
                    · have a0 : addC 2 0 [c0, c1, c2, c3, true, true] = 1 := rfl
                      have a1 : addC 2 1 [c0, c1, c2, c3, true, true] = 1 := rfl
                      have a2 : addC 2 2 [c0, c1, c2, c3, true, true] = 0 := rfl
                      have A0 := Lib.hid a0
                      have A1 := Lib.hid a1
                      have A2 := Lib.hid a2
                      clear a0 a1 a2
                      go_wp2
                      go_region
                      all_goals go_wp2
                      all_goals go_region
                      all_goals go_wp2
                      all_goals go_roundw
                      case rel =>
                        refine ⟨.inr (.inr (.inr ⟨rfl, ?_⟩)), ((hblk.far (by simp) _).far (by simp) _), ((hbox.far (by simp; omega) _).far (by simp; omega) _), ((hres.far (by simp; omega) _).far (by simp; omega) _), ((hb.setCell (by simp; omega) _).setCell (by simp; omega) _).drew.drew⟩
                        rw [A0.out, A1.out, A2.out]
                        simpa using ((ho.set_ 6 _).set_ 7 _).drew.drew
                      case measure => simp [intOf]
                    · have a0 : addC 2 0 [c0, c1, c2, c3, true, false] = 1 := rfl
                      have a1 : addC 2 1 [c0, c1, c2, c3, true, false] = 0 := rfl
                      have a2 : addC 2 2 [c0, c1, c2, c3, true, false] = 0 := rfl
                      have A0 := Lib.hid a0
                      have A1 := Lib.hid a1
                      have A2 := Lib.hid a2
                      clear a0 a1 a2
                      go_wp2
                      go_region
                      all_goals go_wp2
                      all_goals go_roundw
                      case rel =>
                        refine ⟨.inr (.inr (.inr ⟨rfl, ?_⟩)), (hblk.far (by simp) _), (hbox.far (by simp; omega) _), (hres.far (by simp; omega) _), (hb.setCell (by simp; omega) _).drew⟩
                        rw [A0.out, A1.out, A2.out]
                        simpa using (ho.set_ 6 _).drew
                      case measure => simp [intOf]
                    · have a0 : addC 2 0 [c0, c1, c2, c3, false, true] = 0 := rfl
                      have a1 : addC 2 1 [c0, c1, c2, c3, false, true] = 1 := rfl
                      have a2 : addC 2 2 [c0, c1, c2, c3, false, true] = 0 := rfl
                      have A0 := Lib.hid a0
                      have A1 := Lib.hid a1
                      have A2 := Lib.hid a2
                      clear a0 a1 a2
                      go_wp2
                      go_region
                      all_goals go_wp2
                      all_goals go_roundw
                      case rel =>
                        refine ⟨.inr (.inr (.inr ⟨rfl, ?_⟩)), (hblk.far (by simp) _), (hbox.far (by simp; omega) _), (hres.far (by simp; omega) _), (hb.setCell (by simp; omega) _).drew⟩
                        rw [A0.out, A1.out, A2.out]
                        simpa using (ho.set_ 7 _).drew
                      case measure => simp [intOf]
                    · have a0 : addC 2 0 [c0, c1, c2, c3, false, false] = 0 := rfl
                      have a1 : addC 2 1 [c0, c1, c2, c3, false, false] = 0 := rfl
                      have a2 : addC 2 2 [c0, c1, c2, c3, false, false] = 1 := rfl
                      have A0 := Lib.hid a0
                      have A1 := Lib.hid a1
                      have A2 := Lib.hid a2
                      clear a0 a1 a2
                      go_wp2
                      go_region
                      all_goals go_wp2
                      all_goals go_roundw
                      case rel =>
                        refine ⟨.inr (.inr (.inr ⟨rfl, ?_⟩)), (hblk.far (by simp) _), (hbox.far (by simp; omega) _), (hres.far (by simp; omega) _), (hb.setCell (by simp; omega) _).drew⟩
                        rw [A0.out, A1.out, A2.out]
                        simpa using (ho.set_ 8 _).drew
                      case measure => simp [intOf]
                  · go_wp2
                    go_roundw
                    case rel =>
                      refine ⟨k + 1, j, c0, c1, c2, c3, c4, c5, _, _, _, _, _, _, _, _, _, by omega, hj, by go_num, rfl, hst, (fun i e h1 h2 => by have := hearly.out i e h1 h2; omega), HLL.out, ?_, ?_, ?_, ?_, ?_, ?_, ?_, ?_, ?_, ho, hblk, by rw [HSL.out] at hbox; exact hbox, hres, hb⟩
                      all_goals (show _ = _)
                      · rw [tmR_succ HRR.out, hs00.out]
                      · rw [tmR_succ HRR.out, hs01.out]
                      · rw [tmR_succ HRR.out, hs02.out]
                      · rw [tmR_succ HRR.out, hs10.out]
                      · rw [tmR_succ HRR.out, hs11.out]
                      · rw [tmR_succ HRR.out, hs12.out]
                      · rw [tmR_succ HRR.out, hs20.out]
                      · rw [tmR_succ HRR.out, hs21.out]
                      · rw [tmR_succ HRR.out, hs22.out]
                    case measure => simp [intOf]; omega
        case neg =>
          have hkp : k = per.toNat := by omega
          have hr00 : Hid (tms per [b0, b1, b2, b3, b4, b5] es 0 0 = s00) := by show _ = _; unfold tms; rw [if_pos HC.out, ← hs00.out, hkp]
          have hr01 : Hid (tms per [b0, b1, b2, b3, b4, b5] es 0 1 = s01) := by show _ = _; unfold tms; rw [if_pos HC.out, ← hs01.out, hkp]
          have hr02 : Hid (tms per [b0, b1, b2, b3, b4, b5] es 0 2 = s02) := by show _ = _; unfold tms; rw [if_pos HC.out, ← hs02.out, hkp]
          have hr10 : Hid (tms per [b0, b1, b2, b3, b4, b5] es 1 0 = s10) := by show _ = _; unfold tms; rw [if_pos HC.out, ← hs10.out, hkp]
          have hr11 : Hid (tms per [b0, b1, b2, b3, b4, b5] es 1 1 = s11) := by show _ = _; unfold tms; rw [if_pos HC.out, ← hs11.out, hkp]
          have hr12 : Hid (tms per [b0, b1, b2, b3, b4, b5] es 1 2 = s12) := by show _ = _; unfold tms; rw [if_pos HC.out, ← hs12.out, hkp]
          have hr20 : Hid (tms per [b0, b1, b2, b3, b4, b5] es 2 0 = s20) := by show _ = _; unfold tms; rw [if_pos HC.out, ← hs20.out, hkp]
          have hr21 : Hid (tms per [b0, b1, b2, b3, b4, b5] es 2 1 = s21) := by show _ = _; unfold tms; rw [if_pos HC.out, ← hs21.out, hkp]
          have hr22 : Hid (tms per [b0, b1, b2, b3, b4, b5] es 2 2 = s22) := by show _ = _; unfold tms; rw [if_pos HC.out, ← hs22.out, hkp]
          clear hkp
          obtain ⟨z0, z1, z2, z3, z4, z5, z6, z7, z8⟩ := hout.c9
          obtain ⟨y0, y1, y2, y3, y4, y5, y6, y7, y8⟩ := hres.c9
          have f0 := hres.frozen 0
          have f1 := hres.frozen 1
          have f2 := hres.frozen 2
          have f3 := hres.frozen 3
          have f4 := hres.frozen 4
          have f5 := hres.frozen 5
          have f6 := hres.frozen 6
          have f7 := hres.frozen 7
          have f8 := hres.frozen 8
          go_wp2
          refine bodyPost_ret (ret_cell_tmp rfl rfl (load_33 (((((((((hres.set_ 0 _).set_ 1 _).set_ 2 _).set_ 3 _).set_ 4 _).set_ 5 _).set_ 6 _).set_ 7 _).set_ 8 _))) rfl ⟨?_, ?_⟩
          · rw [hr00.out, hr01.out, hr02.out, hr10.out, hr11.out, hr12.out, hr20.out, hr21.out, hr22.out, HC.out, errV_zero]
            rfl
          · exact (((((((((hb.setCell (Nat.le_succ _) _).setCell (Nat.le_succ _) _).setCell (Nat.le_succ _) _).setCell (Nat.le_succ _) _).setCell (Nat.le_succ _) _).setCell (Nat.le_succ _) _).setCell (Nat.le_succ _) _).setCell (Nat.le_succ _) _).setCell (Nat.le_succ _) _)

end Go.Proofs.Ytgnojdiecgfeaaa
