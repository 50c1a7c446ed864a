/- The walks of layer 19's Forward and of the reference's. -/
import Derived.Test.YtgnojdiecgfeaaaRes
namespace Go.Proofs.Ytgnojdiecgfeaaa
open Go.RowKit

def nearB (x : Int) : Bool := decide (-1073741824 ≤ x) && decide (x ≤ 1073741824)
def nearE (xs : List Int) : Int := if xs.all nearB then 0 else 3
theorem nearE_bad {xs : List Int} {k : Nat} {x : Int} (h : xs[k]? = some x) (hb : nearB x = false) : nearE xs = 3 := by
  unfold nearE
  rw [if_neg]
  intro hh
  rw [List.all_eq_true] at hh
  have := hh x (List.mem_of_getElem? h)
  rw [hb] at this
  cases this
theorem nearE_good {xs : List Int} (h : ∀ (j : Nat) (x : Int), xs[j]? = some x → nearB x = true) : nearE xs = 0 := by
  unfold nearE
  rw [if_pos]
  rw [List.all_eq_true]
  intro x hx
  obtain ⟨i, hi, rfl⟩ := List.getElem_of_mem hx
  exact h i _ (List.getElem?_eq_getElem hi)
def fwdA (a b c : Int) : Int := (2 * a - b - c).tdiv 3
def fwdB (b c : Int) : Int := ((b - c) * 37837).tdiv 65536

set_option maxHeartbeats 400000 in
theorem near_walk (A : Option Addr) (n c : Nat) (xs : List Int) (w : World) (hE : Sl w w.heap.size 1 A (xs.map fun x => [.int .i64 x])) (hn : n = xs.length) (hm : n ≤ 1000000) :
    Calls Try.prog 77 #[.slice A n c] w fun e w' => e = .returned (errV (nearE xs)) ∧ w = w' := by
  have HN := Lib.hid hn
  clear hn
  go_enter Try.func77, Try.ntmps77
  go_wp2
  go_loop [7] (fun i => ∃ k : Nat, k ≤ n ∧ i = .int .i64 k ∧ Hid (∀ (j : Nat) (x : Int), j < k → xs[j]? = some x → nearB x = true)) (fun i => n - (intOf i).toNat)
  case atStart => exact ⟨0, Nat.zero_le _, rfl, fun j x h => by omega⟩
  case round =>
    obtain ⟨k, hk, rfl, hg⟩ := hrel
    by_cases hlt : k < n
    · have hkl : k < xs.length := by have := HN.out; omega
      obtain ⟨x, he⟩ : ∃ x, xs[k]? = some x := ⟨_, List.getElem?_eq_getElem hkl⟩
      obtain ⟨ad, rfl, hb, c0⟩ := hE.cell0 (k := k) (u := .int .i64 x) (by rw [List.getElem?_map, he]; rfl) rfl
      rw [Nat.mul_one] at c0
      have HX := Lib.hid he
      clear he
      by_cases h1 : x < -1073741824
      · have hF : Hid (nearE xs = 3) := nearE_bad HX.out (by simp [nearB]; omega)
        go_wp2
        go_ret
        exact ⟨by rw [hF.out]; rfl, rfl⟩
      · by_cases h2 : 1073741824 < x
        · have hF : Hid (nearE xs = 3) := nearE_bad HX.out (by simp [nearB]; omega)
          go_wp2
          go_ret
          exact ⟨by rw [hF.out]; rfl, rfl⟩
        · have hN : Hid (nearB x = true) := by show _ = _; simp [nearB]; omega
          go_wp2
          go_round
          case rel =>
            refine ⟨k + 1, by omega, by go_num, fun j y hj hy => ?_⟩
            by_cases hjk : j = k
            · subst hjk
              rw [HX.out] at hy
              injection hy with hy
              subst hy
              exact hN.out
            · exact hg.out j y (by omega) hy
          case measure => simp [intOf]; omega
    · have hF : Hid (nearE xs = 0) := nearE_good fun j x hx => hg.out j x (by have := (List.getElem?_eq_some_iff.1 hx).1; have := HN.out; omega) hx
      go_wp2
      go_ret
      exact ⟨by rw [hF.out]; rfl, rfl⟩

set_option maxHeartbeats 400000 in
theorem bad_walk (A : Option Addr) (n c : Nat) (xs : List Int) (w : World) (hE : Sl w w.heap.size 1 A (xs.map fun x => [.int .i64 x])) (hn : n = xs.length) (hm : n ≤ 1000000) :
    Calls Try.prog 78 #[.slice A n c] w fun e w' => e = .returned (.int .i64 (nearE xs)) ∧ w = w' := by
  have HN := Lib.hid hn
  clear hn
  go_enter Try.func78, Try.ntmps78
  go_wp2
  go_loop [7] (fun i => ∃ k : Nat, k ≤ n ∧ i = .int .i64 k ∧ Hid (∀ (j : Nat) (x : Int), j < k → xs[j]? = some x → nearB x = true)) (fun i => n - (intOf i).toNat)
  case atStart => exact ⟨0, Nat.zero_le _, rfl, fun j x h => by omega⟩
  case round =>
    obtain ⟨k, hk, rfl, hg⟩ := hrel
    by_cases hlt : k < n
    · have hkl : k < xs.length := by have := HN.out; omega
      obtain ⟨x, he⟩ : ∃ x, xs[k]? = some x := ⟨_, List.getElem?_eq_getElem hkl⟩
      obtain ⟨ad, rfl, hb, c0⟩ := hE.cell0 (k := k) (u := .int .i64 x) (by rw [List.getElem?_map, he]; rfl) rfl
      rw [Nat.mul_one] at c0
      have HX := Lib.hid he
      clear he
      by_cases h1 : x < -1073741824
      · have hF : Hid (nearE xs = 3) := nearE_bad HX.out (by simp [nearB]; omega)
        go_wp2
        go_ret
        exact ⟨by rw [hF.out]; rfl, rfl⟩
      · by_cases h2 : 1073741824 < x
        · have hF : Hid (nearE xs = 3) := nearE_bad HX.out (by simp [nearB]; omega)
          go_wp2
          go_ret
          exact ⟨by rw [hF.out]; rfl, rfl⟩
        · have hN : Hid (nearB x = true) := by show _ = _; simp [nearB]; omega
          go_wp2
          go_round
          case rel =>
            refine ⟨k + 1, by omega, by go_num, fun j y hj hy => ?_⟩
            by_cases hjk : j = k
            · subst hjk
              rw [HX.out] at hy
              injection hy with hy
              subst hy
              exact hN.out
            · exact hg.out j y (by omega) hy
          case measure => simp [intOf]; omega
    · have hF : Hid (nearE xs = 0) := nearE_good fun j x hx => hg.out j x (by have := (List.getElem?_eq_some_iff.1 hx).1; have := HN.out; omega) hx
      go_wp2
      go_ret
      exact ⟨by rw [hF.out]; rfl, rfl⟩

set_option maxHeartbeats 400000 in
theorem forward_walk (a b c : Int) (w : World) (a1 : -1073741824 ≤ a) (a2 : a ≤ 1073741824) (b1 : -1073741824 ≤ b) (b2 : b ≤ 1073741824) (c1 : -1073741824 ≤ c) (c2 : c ≤ 1073741824) :
    Calls Try.prog 73 #[.int .i64 a, .int .i64 b, .int .i64 c] w fun e w' => e = .returned (.tuple #[.int .i64 (fwdA a b c), .int .i64 (fwdB b c), .nilIface]) ∧ Below w.heap.size w w' := by
  have hn := near_walk (some ⟨w.heap.size, 0, none⟩) 3 3 [a, b, c] (w.alloc (.cells #[.int .i64 a, .int .i64 b, .int .i64 c] 3)) (Sl.of_block (Blk.new w _ _) rfl (by simp) (by simp)) rfl (by omega)
  rw [nearE_good (xs := [a, b, c]) (by
    intro j x hx
    match j, hx with
    | 0, hx => simp at hx; subst hx; simp [nearB]; omega
    | 1, hx => simp at hx; subst hx; simp [nearB]; omega
    | 2, hx => simp at hx; subst hx; simp [nearB]; omega)] at hn
  have HN := hide hn
  clear hn
  go_enter Try.func73, Try.ntmps73
  go_wp2_with fail
  refine (unhide HN).mono ?_
  rintro e w' ⟨rfl, rfl⟩
  rw [errV_zero]
  go_wp2
  go_ret3
  exact ⟨rfl, (Below.refl _ _).alloc (Nat.le_refl _) _⟩

set_option maxHeartbeats 400000 in
theorem rforward_walk (a b c : Int) (w : World) (a1 : -1073741824 ≤ a) (a2 : a ≤ 1073741824) (b1 : -1073741824 ≤ b) (b2 : b ≤ 1073741824) (c1 : -1073741824 ≤ c) (c2 : c ≤ 1073741824) :
    Calls Try.prog 74 #[.int .i64 a, .int .i64 b, .int .i64 c] w fun e w' => e = .returned (.tuple #[.int .i64 (fwdA a b c), .int .i64 (fwdB b c), .int .i64 0]) ∧ Below w.heap.size w w' := by
  have hn := bad_walk (some ⟨w.heap.size, 0, none⟩) 3 3 [a, b, c] (w.alloc (.cells #[.int .i64 a, .int .i64 b, .int .i64 c] 3)) (Sl.of_block (Blk.new w _ _) rfl (by simp) (by simp)) rfl (by omega)
  rw [nearE_good (xs := [a, b, c]) (by
    intro j x hx
    match j, hx with
    | 0, hx => simp at hx; subst hx; simp [nearB]; omega
    | 1, hx => simp at hx; subst hx; simp [nearB]; omega
    | 2, hx => simp at hx; subst hx; simp [nearB]; omega)] at hn
  have HN := hide hn
  clear hn
  go_enter Try.func74, Try.ntmps74
  go_wp2_with fail
  refine (unhide HN).mono ?_
  rintro e w' ⟨rfl, rfl⟩
  skip
  go_wp2
  go_ret3
  exact ⟨rfl, (Below.refl _ _).alloc (Nat.le_refl _) _⟩


end Go.Proofs.Ytgnojdiecgfeaaa
