/- The walks of Torque, Power, Is, Ints and the reference's like. -/
import Derived.Test.YtnoihjjenceeaaaDoorDWords
namespace Go.Proofs.YtnoihjjenceeaaaDoor
open Go.RowKit

def trq (s : Int) : Bool := s == 4 || s == 5 || s == 6
def pwr (s : Int) : Bool := s == 3 || trq s
theorem trq_cases (s : Int) : (s = 4 ∧ trq s = true) ∨ (s = 5 ∧ trq s = true) ∨ (s = 6 ∧ trq s = true) ∨ (¬ s = 4 ∧ ¬ s = 5 ∧ ¬ s = 6 ∧ trq s = false) := by
  unfold trq
  by_cases h1 : s = 4
  · subst h1; exact .inl ⟨rfl, rfl⟩
  · by_cases h2 : s = 5
    · subst h2; exact .inr (.inl ⟨rfl, rfl⟩)
    · by_cases h3 : s = 6
      · subst h3; exact .inr (.inr (.inl ⟨rfl, rfl⟩))
      · exact .inr (.inr (.inr ⟨h1, h2, h3, by simp [h1, h2, h3]⟩))
theorem torque_walk (s : Int) (w : World) : Calls Tryd.prog 19 #[.int .i64 s] w fun e w' => e = .returned (.bool (trq s)) ∧ w = w' := by
  rcases trq_cases s with ⟨rfl, h⟩ | ⟨rfl, h⟩ | ⟨rfl, h⟩ | ⟨h1, h2, h3, h⟩
  all_goals
    rw [h]
    try have e1 : (s == 4) = false := by simpa using h1
    try have e2 : (s == 5) = false := by simpa using h2
    try have e3 : (s == 6) = false := by simpa using h3
    go_enter Tryd.func19, Tryd.ntmps19
    go_wp2
    go_ret
    exact ⟨rfl, rfl⟩
theorem rtorque_walk (s : Int) (w : World) : Calls Tryd.prog 24 #[.int .i64 s] w fun e w' => e = .returned (.bool (trq s)) ∧ w = w' := by
  rcases trq_cases s with ⟨rfl, h⟩ | ⟨rfl, h⟩ | ⟨rfl, h⟩ | ⟨h1, h2, h3, h⟩
  all_goals
    rw [h]
    try have e1 : (s == 4) = false := by simpa using h1
    try have e2 : (s == 5) = false := by simpa using h2
    try have e3 : (s == 6) = false := by simpa using h3
    go_enter Tryd.func24, Tryd.ntmps24
    go_wp2
    go_ret
    exact ⟨rfl, rfl⟩
theorem power_walk (s : Int) (w : World) : Calls Tryd.prog 20 #[.int .i64 s] w fun e w' => e = .returned (.bool (pwr s)) ∧ w = w' := by
  by_cases h3 : s = 3
  · subst h3
    go_enter Tryd.func20, Tryd.ntmps20
    go_wp2
    go_ret
    exact ⟨rfl, rfl⟩
  · have e3 : (s == 3) = false := by simpa using h3
    have hp : pwr s = trq s := by simp [pwr, h3]
    rw [hp]
    obtain ⟨b, hb⟩ : ∃ b, trq s = b := ⟨_, rfl⟩
    have ht := fun W => torque_walk s W
    simp only [hb] at ht ⊢
    have HT := hide ht
    clear ht hb hp
    go_enter Tryd.func20, Tryd.ntmps20
    go_wp2_with fail
    refine ((unhide HT) _).mono ?_
    rintro e w1 ⟨rfl, rfl⟩
    go_wp2
    go_ret
    exact ⟨rfl, rfl⟩
theorem rpower_walk (s : Int) (w : World) : Calls Tryd.prog 23 #[.int .i64 s] w fun e w' => e = .returned (.bool (pwr s)) ∧ w = w' := by
  obtain ⟨b, hb⟩ : ∃ b, trq s = b := ⟨_, rfl⟩
  have hp : pwr s = (s == 3 || b) := by rw [← hb]; rfl
  rw [hp]
  have HT : Hid (∀ W, Calls Tryd.prog 24 #[.int .i64 s] W fun e w' => e = .returned (.bool b) ∧ W = w') := fun W => by
    have := rtorque_walk s W
    rw [hb] at this
    exact this
  clear hp hb
  cases b
  · by_cases h3 : s = 3
    · subst h3
      go_enter Tryd.func23, Tryd.ntmps23
      go_wp2_with fail
      refine ((unhide HT) _).mono ?_
      rintro e w1 ⟨rfl, rfl⟩
      go_wp2
      go_ret
      exact ⟨rfl, rfl⟩
    · have e3 : (s == 3) = false := by simpa using h3
      go_enter Tryd.func23, Tryd.ntmps23
      go_wp2_with fail
      refine ((unhide HT) _).mono ?_
      rintro e w1 ⟨rfl, rfl⟩
      go_wp2
      go_ret
      exact ⟨by rw [e3]; rfl, rfl⟩
  · go_enter Tryd.func23, Tryd.ntmps23
    go_wp2_with fail
    refine ((unhide HT) _).mono ?_
    rintro e w1 ⟨rfl, rfl⟩
    go_wp2
    go_ret
    exact ⟨by rw [Bool.or_true]; rfl, rfl⟩
theorem rstate_walk (s : Int) (w : World) : Calls Tryd.prog 12 #[.int .i64 s] w fun e w' => e = .returned (.bool (stOk s)) ∧ w = w' := by
  have hs : (0 ≤ s ∧ s ≤ 7 ∧ stOk s = true) ∨ (0 ≤ s ∧ ¬ s ≤ 7 ∧ stOk s = false) ∨ (¬ 0 ≤ s ∧ stOk s = false) := by
    unfold stOk
    by_cases h1 : 0 ≤ s <;> by_cases h2 : s ≤ 7 <;> simp [h1, h2]
  rcases hs with ⟨h1, h2, h3⟩ | ⟨h1, h2, h3⟩ | ⟨h1, h3⟩
  all_goals
    rw [h3]
    go_enter Tryd.func12, Tryd.ntmps12
    go_wp2
    go_ret
    exact ⟨rfl, rfl⟩
theorem ta_errno (n : Int) (w : World) : (Instr.typeAssert (.iface 31 (.int .i64 n)) 26 31 true).run Tryd.prog w = .ok (.tuple #[.int .i64 n, .bool true]) w := by kernel_rfl
set_option maxHeartbeats 1600000 in
theorem is_walk (n : Int) (w : World) : Calls Tryd.prog 13 #[.iface 31 (.int .i64 n), .int .i64 n] w fun e w' => e = .returned (.bool true) ∧ w = w' := by
  go_enter Tryd.func13, Tryd.ntmps13
  have hta := ta_errno
  go_wp2
  go_ret
  exact ⟨rfl, rfl⟩
theorem Sl.one {w : World} {B : Nat} {A : Option Addr} {rs : List (List Value)} {k : Nat} {x0 : Value} (h : Sl w B 1 A rs) (hk : rs[k]? = some [x0]) : ∃ ad p, A = some ad ∧ ad.add k = p ∧ p.block < B ∧ w.cell? p = some x0 := by
  obtain ⟨ad, rfl, hb, hc⟩ := h.cell0 hk rfl
  rw [Nat.mul_one] at hc
  exact ⟨ad, _, rfl, rfl, by rw [block_of_add]; exact hb, hc⟩
theorem Sl.of_block {w : World} {g size B : Nat} {e : TypeId} {cs : Array Value} {rs : List (List Value)} (h : Blk w g e cs) (hf : rs.flatten = cs.toList) (hl : ∀ r ∈ rs, r.length = size) (hB : g < B) : Sl w B size (some ⟨g, 0, none⟩) rs :=
  ⟨hl, fun _ => ⟨_, rfl, hB, fun k r hr j u hu => by
    have hadd : (⟨g, 0, none⟩ : Addr).add (k * size + j) = ⟨g, k * size + j, none⟩ := by
      unfold Addr.add
      split <;> simp_all
    rw [hadd, h.cell]
    have := flat_get size rs hl k r hr j u hu
    rw [hf] at this
    simpa using this⟩⟩
set_option maxRecDepth 100000 in
set_option maxHeartbeats 1600000 in
theorem ints_walk (xs : List Int) (A A2 : Option Addr) (n c n2 c2 : Nat) (w : World) (hE : Sl w w.heap.size 1 A (xs.map fun x => [Value.int .i64 x])) (hE2 : Sl w w.heap.size 1 A2 (xs.map fun x => [Value.int .i64 x])) (hn : n = xs.length) (hn2 : n2 = xs.length) (hm : xs.length ≤ 1000000) :
    Calls Tryd.prog 17 #[.slice A n c, .slice A2 n2 c2] w fun e w' => e = .returned (.bool true) ∧ Below w.heap.size w w' := by
  subst hn hn2
  obtain ⟨L, hL⟩ : ∃ L, xs.length = L := ⟨_, rfl⟩
  rw [hL] at hm ⊢
  have HL := Lib.hid hL
  clear hL
  go_enter Tryd.func17, Tryd.ntmps17
  go_wp2
  go_loopw [13] (fun i wr => ∃ k : Nat, k ≤ L ∧ i = .int .i64 k ∧ Below w.heap.size w wr) (fun i _ => L - (intOf i).toNat)
  case atStart => exact ⟨0, Nat.zero_le _, rfl, Below.refl _ _⟩
  case round =>
  obtain ⟨k, hk, rfl, hb⟩ := hrel
  by_cases hlt : k < L
  · obtain ⟨x, hx⟩ : ∃ x, xs[k]? = some x := ⟨_, List.getElem?_eq_getElem (by have := HL.out; omega)⟩
    obtain ⟨ad, p, rfl, hpa, hpb, e0⟩ := (hE.below hb).one (k := k) (x0 := .int .i64 x) (by rw [List.getElem?_map, hx]; rfl)
    obtain ⟨ad2, p2, rfl, hpa2, hpb2, e02⟩ := (hE2.below hb).one (k := k) (x0 := .int .i64 x) (by rw [List.getElem?_map, hx]; rfl)
    have hs := hb.size
    have hl1 : p.block < wr.heap.size := by omega
    have hl2 : p2.block < wr.heap.size := by omega
    go_wp2
    go_quiet (fail)
    go_wp2
    go_roundw
    case rel => exact ⟨k + 1, by omega, by go_num, below_drewN hb nq⟩
    case measure => simp [intOf]; omega
  · obtain rfl : k = L := by omega
    go_wp2
    go_ret
    exact ⟨rfl, hb⟩

set_option maxRecDepth 100000 in
set_option maxHeartbeats 1600000 in
theorem awakeD_walk (w : World) (hc : Cw w) : Calls Tryd.prog 10 #[] w fun e w' => e = .returned (.bool true) ∧ Below w.heap.size w w' := by
  have hw := words_walk 7 4 w (by decide) (by decide) hc
  have hf := fin_run
  go_enter Tryd.func10, Tryd.ntmps10
  have HW := hide hw
  clear hw
  go_wp2_with fail
  refine (unhide HW).mono ?_
  rintro e w1 ⟨hb, ⟨hneg, _⟩ | ⟨_, v, rfl, hown⟩⟩
  · exfalso
    have h2 : 0 ≤ gI (fin ((4 : Nat) : Int)) ((7 : Nat) : Int) := fin_run
    omega
  rw [show ways ((7 : Nat) : Int) ((4 : Nat) : Int) = [128, 6, 7, 15] from ways_run] at hown
  obtain ⟨A, c, rfl, hsl, _⟩ := Sl.of_own (rs := [128, 6, 7, 15].map fun x : Int => [Value.int .i64 x]) (size := 1) (by simpa using hown) (by simp) (by simp)
  have hsl2 := (hsl.alloc (Nat.le_refl _) (.cells #[.int .i64 128, .int .i64 6, .int .i64 7, .int .i64 15] 3))
  have hsl3 : Sl (w1.alloc (.cells #[.int .i64 128, .int .i64 6, .int .i64 7, .int .i64 15] 3)) (w1.alloc (.cells #[.int .i64 128, .int .i64 6, .int .i64 7, .int .i64 15] 3)).heap.size 1 A ([128, 6, 7, 15].map fun x : Int => [Value.int .i64 x]) := hsl2.more (by simp)
  have hsl4 : Sl (w1.alloc (.cells #[.int .i64 128, .int .i64 6, .int .i64 7, .int .i64 15] 3)) (w1.alloc (.cells #[.int .i64 128, .int .i64 6, .int .i64 7, .int .i64 15] 3)).heap.size 1 (some ⟨w1.heap.size, 0, none⟩) ([128, 6, 7, 15].map fun x : Int => [Value.int .i64 x]) :=
    Sl.of_block (Blk.new w1 3 #[.int .i64 128, .int .i64 6, .int .i64 7, .int .i64 15]) rfl (by simp) (by simp)
  have hb2 := hb.alloc hb.size (.cells #[.int .i64 128, .int .i64 6, .int .i64 7, .int .i64 15] 3)
  have hi := ints_walk [128, 6, 7, 15] A (some ⟨w1.heap.size, 0, none⟩) 4 c 4 4 _ hsl3 hsl4 rfl rfl (by decide)
  have HI := hide hi
  clear hi hsl hsl2 hsl3 hsl4 hown hb hf
  go_wp2_with fail
  refine (unhide HI).mono ?_
  rintro e w2 ⟨rfl, hb3⟩
  have hb4 := hb2.trans (hb3.mono hb2.size)
  go_wp2_with fail
  refine (torque_walk 4 _).mono ?_
  rintro e w3 ⟨rfl, rfl⟩
  go_wp2
  go_ret
  exact ⟨rfl, hb4⟩

end Go.Proofs.YtnoihjjenceeaaaDoor
