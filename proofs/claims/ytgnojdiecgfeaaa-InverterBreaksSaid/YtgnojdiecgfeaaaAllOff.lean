/- The walks of AllOff (with slices.ContainsFunc and IndexFunc) and of the statement InverterReturns. -/
import Derived.Test.YtgnojdiecgfeaaaChecks
namespace Go.Proofs.Ytgnojdiecgfeaaa
open Go.RowKit

theorem edgeOn_walk (a b : Int) (o : Bool) (w : World) : Calls Try.prog 62 #[.agg #[.int .i64 a, .int .i64 b, .bool o]] w fun e w' => e = .returned (.bool o) ∧ Below w.heap.size w w' := by
  go_enter Try.func62, Try.ntmps62
  go_wp2
  go_ret
  exact ⟨rfl, (Below.refl _ _).alloc (Nat.le_refl _) _⟩

/-- No edge turns a switch on. -/
def noneOn (es : List Ed) : Bool := es.all fun e => !e.o
theorem noneOn_hit {es : List Ed} {k : Nat} {e : Ed} (h : es[k]? = some e) (ho : e.o = true) : noneOn es = false := by
  obtain ⟨h1, rfl⟩ := List.getElem?_eq_some_iff.1 h
  unfold noneOn
  rw [Bool.eq_false_iff]
  intro hh
  rw [List.all_eq_true] at hh
  have := hh _ (List.getElem_mem h1)
  rw [ho] at this
  cases this
theorem noneOn_all {es : List Ed} (h : ∀ (j : Nat) (x : Ed), es[j]? = some x → x.o = false) : noneOn es = true := by
  unfold noneOn
  rw [List.all_eq_true]
  intro x hx
  obtain ⟨i, hi, rfl⟩ := List.getElem_of_mem hx
  rw [h i _ (List.getElem?_eq_getElem hi)]
  rfl

set_option maxHeartbeats 800000 in
theorem indexFunc_walk (A : Option Addr) (n c : Nat) (es : List Ed) (w : World) (hE : Sl w w.heap.size 3 A (es.map Ed.row)) (hn : n = es.length) (hm : n ≤ 1000000) :
    Calls Try.prog 76 #[.slice A n c, .func (.func 62) #[] #[]] w fun e w' => (∃ i : Int, e = .returned (.int .i64 i) ∧ (0 ≤ i ↔ noneOn es = false) ∧ i < 1000001 ∧ -2 < i) ∧ Below w.heap.size w w' := by
  have HN := Lib.hid hn
  clear hn
  go_enter Try.func76, Try.ntmps76
  go_wp2
  go_loopw [8] (fun i wr => ∃ k : Nat, k ≤ n ∧ i = .int .i64 k ∧ Hid (∀ (j : Nat) (x : Ed), j < k → es[j]? = some x → x.o = false) ∧ Below w.heap.size w wr) (fun i _ => n - (intOf i).toNat)
  case atStart => exact ⟨0, Nat.zero_le _, rfl, fun j x h => by omega, Below.refl _ _⟩
  case round =>
    obtain ⟨k, hk, rfl, hg, hb⟩ := hrel
    by_cases hlt : k < n
    · have hkl : k < es.length := by have := HN.out; omega
      obtain ⟨⟨et, es', eo⟩, he⟩ : ∃ e, es[k]? = some e := ⟨_, List.getElem?_eq_getElem hkl⟩
      obtain ⟨ad, p, rfl, hpa, hpb, e0, e1, e2⟩ := (hE.below hb).three (k := k) (x := .int .i64 et) (y := .int .i64 es') (z := .bool eo) (by rw [List.getElem?_map, he]; rfl)
      have HE := Lib.hid he
      clear he
      go_wp2_with fail
      refine (edgeOn_walk et es' eo _).mono ?_
      rintro e w1 ⟨rfl, hb1⟩
      have hb2 := hb.trans (hb1.mono hb.size)
      cases eo
      · go_wp2
        go_roundw
        case rel =>
          refine ⟨k + 1, by omega, by go_num, fun j x hj hx => ?_, hb2⟩
          by_cases hjk : j = k
          · subst hjk
            rw [HE.out] at hx
            injection hx with hx
            subst hx
            rfl
          · exact hg.out j x (by omega) hx
        case measure => simp [intOf]; omega
      · go_wp2
        go_ret
        refine ⟨⟨k, rfl, ?_, by omega, by omega⟩, hb2⟩
        rw [noneOn_hit HE.out rfl]
        simp
    · have HF : Hid (noneOn es = true) := noneOn_all fun j x hx => hg.out j x (by have := (List.getElem?_eq_some_iff.1 hx).1; have := HN.out; omega) hx
      go_wp2
      go_ret
      refine ⟨⟨-1, rfl, ?_, by omega, by omega⟩, hb⟩
      rw [HF.out]
      simp

set_option maxHeartbeats 400000 in
theorem containsFunc_walk (A : Option Addr) (n c : Nat) (es : List Ed) (w : World) (hE : Sl w w.heap.size 3 A (es.map Ed.row)) (hn : n = es.length) (hm : n ≤ 1000000) :
    Calls Try.prog 61 #[.slice A n c, .func (.func 62) #[] #[]] w fun e w' => e = .returned (.bool (!noneOn es)) ∧ Below w.heap.size w w' := by
  have HN := Lib.hid hn
  clear hn
  go_enter Try.func61, Try.ntmps61
  go_wp2_with fail
  refine (indexFunc_walk A n c es w hE HN.out hm).mono ?_
  rintro e w1 ⟨⟨i, rfl, hi, hi1, hi2⟩, hb⟩
  cases hno : noneOn es
  · have h0 : 0 ≤ i := hi.2 hno
    have HNO := Lib.hid hno
    clear hno hi
    go_wp2
    go_ret
    exact ⟨by simp [HNO.out], hb⟩
  · have h0 : ¬ 0 ≤ i := fun h => by rw [hi.1 h] at hno; cases hno
    have HNO := Lib.hid hno
    clear hno hi
    go_wp2
    go_ret
    exact ⟨by simp [HNO.out]; omega, hb⟩

theorem eq_zero6 (b0 b1 b2 b3 b4 b5 : Bool) (w : World) : (binOp .eql 22 (.agg #[.bool b0, .bool b1, .bool b2, .bool b3, .bool b4, .bool b5]) (.agg #[.bool false, .bool false, .bool false, .bool false, .bool false, .bool false])).run Try.prog w = .ok (.bool (!(b0 || b1 || b2 || b3 || b4 || b5))) w := by
  cases b0 <;> cases b1 <;> cases b2 <;> cases b3 <;> cases b4 <;> cases b5 <;> kernel_rfl

def allOff (b0 b1 b2 b3 b4 b5 : Bool) (es : List Ed) : Bool := !(b0 || b1 || b2 || b3 || b4 || b5) && noneOn es

set_option maxHeartbeats 400000 in
theorem allOff_walk (per : Int) (b0 b1 b2 b3 b4 b5 : Bool) (A : Option Addr) (n c : Nat) (es : List Ed) (w : World) (hE : Sl w w.heap.size 3 A (es.map Ed.row)) (hn : n = es.length) (hm : n ≤ 1000000) :
    Calls Try.prog 30 #[.agg #[.int .i64 per, .bool b0, .bool b1, .bool b2, .bool b3, .bool b4, .bool b5, .slice A n c]] w fun e w' => e = .returned (.bool (allOff b0 b1 b2 b3 b4 b5 es)) ∧ Below w.heap.size w w' := by
  have HN := Lib.hid hn
  clear hn
  have hb0 := (Below.refl w.heap.size w).alloc (Nat.le_refl _) (.cells #[.int .i64 per, .bool b0, .bool b1, .bool b2, .bool b3, .bool b4, .bool b5, .slice A n c] 25)
  have heq := eq_zero6 b0 b1 b2 b3 b4 b5
  obtain ⟨z, hz⟩ : ∃ z, (b0 || b1 || b2 || b3 || b4 || b5) = z := ⟨_, rfl⟩
  rw [show allOff b0 b1 b2 b3 b4 b5 es = (!(b0 || b1 || b2 || b3 || b4 || b5) && noneOn es) from rfl]
  rw [hz] at heq ⊢
  clear hz
  cases z
  · go_enter Try.func30, Try.ntmps30
    go_wp2_with fail
    refine (containsFunc_walk A n c es _ ((hE.below hb0).more hb0.size) HN.out hm).mono ?_
    rintro e w1 ⟨rfl, hb1⟩
    have hb2 := hb0.trans (hb1.mono hb0.size)
    go_wp2
    go_ret
    exact ⟨by simp, hb2⟩
  · go_enter Try.func30, Try.ntmps30
    go_wp2
    go_ret
    exact ⟨rfl, hb0⟩

end Go.Proofs.Ytgnojdiecgfeaaa
