/- The walk of layer 24's 'awake'. -/
import Derived.Test.YtgnojdiecgfeaaaRun
import Derived.Test.YtgnojdiecgfeaaaFresh
import Derived.Test.YtgnojdiecgfeaaaTimes
import Derived.Deep.RegionHeld3
import Derived.Deep.CutRange
namespace Go.Proofs.Ytgnojdiecgfeaaa
open Go.RowKit

def awR : Rq := ⟨100, 4, 100, p3 25 0 0, p3 75 0 0, fresh⟩
def awEs : List Ed := [⟨0, 1, true⟩, ⟨0, 3, true⟩, ⟨0, 5, true⟩, ⟨25, 1, false⟩, ⟨29, 0, true⟩, ⟨75, 0, false⟩, ⟨79, 1, true⟩]
def sixF : List Bool := [false, false, false, false, false, false]
def edB (a b : Ed) : Bool := decide (a.t = b.t) && decide (a.s = b.s) && (a.o == b.o)
def edsB : List Ed → List Ed → Bool
  | [], [] => true
  | a :: xs, b :: ys => edB a b && edsB xs ys
  | _, _ => false
theorem edsB_eq : ∀ {xs ys : List Ed}, edsB xs ys = true → xs = ys
  | [], [], _ => rfl
  | [], _ :: _, h => by simp [edsB] at h
  | _ :: _, [], h => by simp [edsB] at h
  | ⟨t, s, o⟩ :: xs, ⟨t', s', o'⟩ :: ys, h => by
    simp only [edsB, edB, Bool.and_eq_true, decide_eq_true_eq, beq_iff_eq] at h
    obtain ⟨⟨⟨rfl, rfl⟩, rfl⟩, h⟩ := h
    rw [edsB_eq h]
theorem aw_es : awR.es 100 = awEs := edsB_eq (by decide +kernel)
theorem aw_chk : chk 100 awEs = 0 := by decide +kernel
theorem aw_t00 : tms 100 sixF awEs 0 0 = 46 := by decide +kernel
theorem aw_t01 : tms 100 sixF awEs 0 1 = 46 := by decide +kernel
theorem aw_t02 : tms 100 sixF awEs 0 2 = 8 := by decide +kernel
theorem aw_t10 : tms 100 sixF awEs 1 0 = 0 := by decide +kernel
theorem aw_t11 : tms 100 sixF awEs 1 1 = 100 := by decide +kernel
theorem aw_t12 : tms 100 sixF awEs 1 2 = 0 := by decide +kernel
theorem aw_run (w : World) : Calls Try.prog 32 #[.agg #[.int .i64 0, .int .i64 4096, .int .i64 0, .int .i64 4096, .int .i64 0, .int .i64 4096], .agg #[.int .i64 25, .int .i64 75, .int .i64 0, .int .i64 0, .int .i64 0, .int .i64 0], .int .i64 100, .int .i64 4, .int .i64 100] w fun e w' => ∃ A c l0 l1 l2 l3 l4 l5,
    e = .returned (.tuple #[.agg #[.int .i64 100, .bool false, .bool false, .bool false, .bool false, .bool false, .bool false, .slice A 7 c], .agg #[.int .i64 l0, .int .i64 l1, .int .i64 l2, .int .i64 l3, .int .i64 l4, .int .i64 l5], .nilIface]) ∧ Sl w' w'.heap.size 3 A (awEs.map Ed.row) ∧ (∀ ad, A = some ad → w.heap.size ≤ ad.block) ∧ Below w.heap.size w w' := by
  refine (run_walk fresh (p3 25 0 0) (p3 75 0 0) 100 4 100 w (by decide +kernel) (by decide) (by decide) (by decide) (by decide) (by decide) (by decide) (by decide) (by decide) (by decide) (by decide) (by decide) awR rfl).mono ?_
  rintro e w' ⟨A, n, c, rfl, hn, hsl, hage, hb⟩
  rw [show (100 : Int).toNat = 100 from rfl, aw_es] at hn hsl
  subst hn
  exact ⟨A, c, _, _, _, _, _, _, rfl, hsl, hage, hb⟩
theorem fresh_lit (w : World) : Calls Try.prog 38 #[] w fun e w' => e = .returned (.agg #[.int .i64 0, .int .i64 4096, .int .i64 0, .int .i64 4096, .int .i64 0, .int .i64 4096]) ∧ Below w.heap.size w w' := fresh_walk w
theorem aw_eq0 (w : World) : (binOp .eql 26 (.agg #[.int .i64 46, .int .i64 46, .int .i64 8]) (.agg #[.int .i64 46, .int .i64 46, .int .i64 8])).run Try.prog w = .ok (.bool true) w := by kernel_rfl
theorem aw_eq1 (w : World) : (binOp .eql 26 (.agg #[.int .i64 0, .int .i64 100, .int .i64 0]) (.agg #[.int .i64 0, .int .i64 100, .int .i64 0])).run Try.prog w = .ok (.bool true) w := by kernel_rfl
/-- The pattern in memory, and what was there before. -/
structure AS (w0 w : World) (ps : Array Value) : Prop where
  p : Blk w w0.heap.size 51 ps
  b : Below w0.heap.size w0 w
theorem AS.all {w0 w : World} {a b c d e f : Value} (h : AS w0 w #[a, b, c, d, e, f]) : AS w0 w #[a, b, c, d, e, f] ∧ w.cell? ⟨w0.heap.size, 0, none⟩ = some a ∧ w.cell? ⟨w0.heap.size, 1, none⟩ = some b ∧ w.cell? ⟨w0.heap.size, 2, none⟩ = some c ∧ w.cell? ⟨w0.heap.size, 3, none⟩ = some d ∧ w.cell? ⟨w0.heap.size, 4, none⟩ = some e ∧ w.cell? ⟨w0.heap.size, 5, none⟩ = some f :=
  ⟨h, h.p.c6⟩
theorem AS.drew {w0 w : World} {ps : Array Value} (h : AS w0 w ps) : AS w0 w.drew ps := ⟨h.p, h.b.drew⟩
theorem AS.one {Q : Prop} {w0 w : World} {ps : Array Value} (h : AS w0 w ps ∧ Q) : AS w0 w ps := h.1
theorem AS.below {w0 w w' : World} {ps : Array Value} (hb : Below w.heap.size w w') (h : AS w0 w ps) : AS w0 w' ps := ⟨h.p.below hb h.p.lt, h.b.trans (hb.mono h.b.size)⟩
theorem AS.alloc {w0 w : World} {ps : Array Value} (h : AS w0 w ps) (o : Obj) : AS w0 (w.alloc o) ps := ⟨h.p.alloc o, h.b.alloc h.b.size o⟩
theorem AS.set {w0 w : World} {ps : Array Value} (h : AS w0 w ps) {p : Addr} (hp : w0.heap.size < p.block) (u : Value) : AS w0 (w.setCell p u) ps := ⟨h.p.far (by omega) u, h.b.setCell (by omega) u⟩
/-- Blocks from N on, as far as they were there, are as they were. -/
structure Kp (N : Nat) (w w' : World) : Prop where
  size : w.heap.size ≤ w'.heap.size
  blk : ∀ b, N ≤ b → b < w.heap.size → w'.heap[b]? = w.heap[b]?
theorem Kp.refl (N : Nat) (w : World) : Kp N w w := ⟨Nat.le_refl _, fun _ _ _ => rfl⟩
theorem Kp.drew {N : Nat} {w w' : World} (h : Kp N w w') : Kp N w w'.drew := ⟨h.size, h.blk⟩
theorem Kp.alloc {N : Nat} {w w' : World} (h : Kp N w w') (o : Obj) : Kp N w (w'.alloc o) :=
  ⟨Nat.le_trans h.size (by simp), fun b h1 h2 => (Below.heap_alloc w' o b (Nat.lt_of_lt_of_le h2 h.size)).trans (h.blk b h1 h2)⟩
theorem Kp.set {N : Nat} {w w' : World} (h : Kp N w w') {p : Addr} (hp : p.block < N ∨ w.heap.size ≤ p.block) (u : Value) : Kp N w (w'.setCell p u) :=
  ⟨by simpa [World.setCell] using h.size, fun b h1 h2 => (Below.heap_setCell w' p u b (by omega)).trans (h.blk b h1 h2)⟩
theorem Sl.kp {N size : Nat} {w w' : World} {A : Option Addr} {rs : List (List Value)} (h : Sl w w.heap.size size A rs) (ha : ∀ ad, A = some ad → N ≤ ad.block) (hk : Kp N w w') : Sl w' w'.heap.size size A rs :=
  ⟨h.len, fun hn => by
    obtain ⟨ad, e, hb, hc⟩ := h.at_ hn
    exact ⟨ad, e, Nat.lt_of_lt_of_le hb hk.size, fun k r hr j u hu => (World.cell?_of_block (hk.blk _ (by rw [block_of_add]; exact ha ad e) (by rw [block_of_add]; exact hb))).trans (hc k r hr j u hu)⟩⟩
theorem use_fact {p q C : Prop} (h : p → q) (hp : p) (k : q → C) : C := k (h hp)

set_option maxRecDepth 100000 in
set_option maxHeartbeats 6400000 in
theorem awakeG_walk (w : World) : Calls Try.prog 31 #[] w fun e w' => e = .returned (.bool true) ∧ Below w.heap.size w w' := by
  have haw0 := aw_eq0
  have haw1 := aw_eq1
  have has : AS w (w.alloc (.cells #[.int .i64 25, .int .i64 75, .int .i64 0, .int .i64 0, .int .i64 0, .int .i64 0] 51)) #[.int .i64 25, .int .i64 75, .int .i64 0, .int .i64 0, .int .i64 0, .int .i64 0] := ⟨Blk.new _ _ _, (Below.refl w.heap.size w).alloc (Nat.le_refl _) _⟩
  go_enter Try.func31, Try.ntmps31
  go_wp2
  obtain ⟨W, hW⟩ : ∃ W, w.alloc (.cells #[.int .i64 25, .int .i64 75, .int .i64 0, .int .i64 0, .int .i64 0, .int .i64 0] 51) = W := ⟨_, rfl⟩
  rw [hW] at has ⊢
  clear hW
  have hlW := has.p.lt
  have hlW1 : w.heap.size < W.heap.size + 1 := by omega
  have hlW2 : w.heap.size < W.heap.size + 1 + 1 := by omega
  have hds : ∀ w : World, w.drew.heap.size = w.heap.size := fun _ => rfl
  go_cut [2, 4] from 12 to 46 (fun u2 u4 wx => u4 = .nilIface ∧ ∃ (a2 : Nat) (A : Option Addr) (c : Nat), u2 = .pointer (some ⟨a2, 0, none⟩) ∧ wx.cell? ⟨a2, 0, none⟩ = some (.int .i64 100) ∧ wx.cell? ⟨a2, 1, none⟩ = some (.bool false) ∧ wx.cell? ⟨a2, 2, none⟩ = some (.bool false) ∧ wx.cell? ⟨a2, 3, none⟩ = some (.bool false) ∧ wx.cell? ⟨a2, 4, none⟩ = some (.bool false) ∧ wx.cell? ⟨a2, 5, none⟩ = some (.bool false) ∧ wx.cell? ⟨a2, 6, none⟩ = some (.bool false) ∧ wx.cell? ⟨a2, 7, none⟩ = some (.slice A 7 c) ∧ Sl wx wx.heap.size 3 A (awEs.map Ed.row) ∧ Below w.heap.size w wx)
  case first =>
    go_region_held3 (fun w' => AS w w' #[.int .i64 25, .int .i64 75, .int .i64 0, .int .i64 0, .int .i64 0, .int .i64 0] ∧ w'.cell? ⟨w.heap.size, 0, none⟩ = some (.int .i64 25) ∧ w'.cell? ⟨w.heap.size, 1, none⟩ = some (.int .i64 75) ∧ w'.cell? ⟨w.heap.size, 2, none⟩ = some (.int .i64 0) ∧ w'.cell? ⟨w.heap.size, 3, none⟩ = some (.int .i64 0) ∧ w'.cell? ⟨w.heap.size, 4, none⟩ = some (.int .i64 0) ∧ w'.cell? ⟨w.heap.size, 5, none⟩ = some (.int .i64 0))
      (first | (refine AS.all ?_; repeat (first | with_reducible exact has | with_reducible exact hasF | with_reducible exact hasR | with_reducible refine AS.drew ?_ | with_reducible refine AS.alloc ?_ _ | (with_reducible refine AS.set ?_ ?_ _; rotate_left; · (show w.heap.size < _; first | omega | (dsimp only; omega))))))
      (first | (go_at_call 38; refine (fresh_lit _).mono ?_; rintro e wF ⟨rfl, hbq⟩; have hasF := AS.below hbq (AS.one ‹AS w _ _ ∧ _›); have q0 := hasF.p.lt; have hk1 := fun (b o : Nat) (h : b < _) => hbq.cell (p := ⟨b, o, none⟩) h; have hk2 := fun (b o : Nat) (h : b < _) => hbq.frozen (p := ⟨b, o, none⟩) h; have hk3 := fun (b : Nat) (h : b < _) => Nat.lt_of_lt_of_le h hbq.size; (try (refine use_fact (hk3 W.heap.size) ?_ (fun q1 => ?_); · (first | omega | (simp only [hds, World.size_alloc]; omega)))); (try (refine use_fact (hk3 (W.heap.size + 1)) ?_ (fun q2 => ?_); · (first | omega | (simp only [hds, World.size_alloc]; omega))))) | (go_at_call 32; refine (aw_run _).mono ?_; rintro e wR ⟨A, c, l0, l1, l2, l3, l4, l5, rfl, hsl, hage, hbq2⟩; have hasR := AS.below hbq2 (AS.one ‹AS w _ _ ∧ _›); have q0R := hasR.p.lt; have hk4 := fun (b o : Nat) (h : b < _) => hbq2.cell (p := ⟨b, o, none⟩) h; have hk5 := fun (b o : Nat) (h : b < _) => hbq2.frozen (p := ⟨b, o, none⟩) h; have hk6 := fun (b : Nat) (h : b < _) => Nat.lt_of_lt_of_le h hbq2.size; (try (refine use_fact (hk6 W.heap.size) ?_ (fun q3 => ?_); · (first | omega | (simp only [World.size_alloc]; omega)))); (try (refine use_fact (hk6 (W.heap.size + 1)) ?_ (fun q4 => ?_); · (first | omega | (simp only [World.size_alloc]; omega)))); (try (refine use_fact (hk6 wF.heap.size) ?_ (fun q5 => ?_); · (first | omega | (simp only [World.size_alloc]; omega)))); (try (refine use_fact (hk6 (wF.heap.size + 1)) ?_ (fun q6 => ?_); · (first | omega | (simp only [World.size_alloc]; omega))))))
    all_goals
      go_wp2_with fail
      go_meet
      case rel =>
        refine ⟨rfl, _, A, c, rfl, ?_, ?_, ?_, ?_, ?_, ?_, ?_, ?_, Sl.kp hsl hage ?_, ?_⟩
        · first | (go_simp; done) | (go_simp; refine World.cell?_setCell_same' _ _ _ ?_; go_simp)
        · first | (go_simp; done) | (go_simp; refine World.cell?_setCell_same' _ _ _ ?_; go_simp)
        · first | (go_simp; done) | (go_simp; refine World.cell?_setCell_same' _ _ _ ?_; go_simp)
        · first | (go_simp; done) | (go_simp; refine World.cell?_setCell_same' _ _ _ ?_; go_simp)
        · first | (go_simp; done) | (go_simp; refine World.cell?_setCell_same' _ _ _ ?_; go_simp)
        · first | (go_simp; done) | (go_simp; refine World.cell?_setCell_same' _ _ _ ?_; go_simp)
        · first | (go_simp; done) | (go_simp; refine World.cell?_setCell_same' _ _ _ ?_; go_simp)
        · first | (go_simp; done) | (go_simp; refine World.cell?_setCell_same' _ _ _ ?_; go_simp)
        · repeat (first | with_reducible exact Kp.refl _ _ | with_reducible refine Kp.drew ?_ | with_reducible refine Kp.alloc ?_ _ | (with_reducible refine Kp.set ?_ ?_ _; rotate_left; · (first | omega | (simp only [World.size_alloc]; omega))))
        · refine AS.b (ps := #[.int .i64 25, .int .i64 75, .int .i64 0, .int .i64 0, .int .i64 0, .int .i64 0]) ?_
          repeat (first | with_reducible exact hasR | with_reducible refine AS.drew ?_ | with_reducible refine AS.alloc ?_ _ | (with_reducible refine AS.set ?_ ?_ _; rotate_left; · (show w.heap.size < _; first | omega | (dsimp only; omega))))
  case rest =>
    obtain ⟨rfl, a2, A, c, rfl, e0, e1, e2, e3, e4, e5, e6, e7, hsl, hbw⟩ := hcut
    have hlt2 : a2 < wc.heap.size := World.block_lt_of_cell? wc _ e0
    have ht := times_walk 100 false false false false false false A 7 c awEs wc hsl rfl (by omega)
    rw [show [false, false, false, false, false, false] = sixF from rfl, aw_t00, aw_t01, aw_t02, aw_t10, aw_t11, aw_t12, aw_chk, errV_zero] at ht
    obtain ⟨v20, hv20⟩ : ∃ v, tms 100 sixF awEs 2 0 = v := ⟨_, rfl⟩
    obtain ⟨v21, hv21⟩ : ∃ v, tms 100 sixF awEs 2 1 = v := ⟨_, rfl⟩
    obtain ⟨v22, hv22⟩ : ∃ v, tms 100 sixF awEs 2 2 = v := ⟨_, rfl⟩
    rw [hv20, hv21, hv22] at ht
    have HT := hide ht
    clear ht hv20 hv21 hv22
    go_wp2_with fail
    refine (unhide HT).mono ?_
    rintro e w3 ⟨rfl, hb3⟩
    have hbx := hbw.trans (hb3.mono hbw.size)
    have hlt3 : a2 < w3.heap.size := Nat.lt_of_lt_of_le hlt2 hb3.size
    have f7 : w3.cell? ⟨a2, 7, none⟩ = some (.slice A 7 c) := (hb3.cell (p := ⟨a2, 7, none⟩) hlt2).trans e7
    clear e0 e1 e2 e3 e4 e5 e6 e7 hb3 hsl HT
    go_wp2
    go_ret
    exact ⟨rfl, hbx.alloc hbx.size _⟩

end Go.Proofs.Ytgnojdiecgfeaaa
