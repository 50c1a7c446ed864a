/- Plain facts: the high counts lie between those of the upper switch and the rest of the lower one. -/
import Derived.Test.YtgnojdiecgfeaaaTimes
import Derived.Test.YtgnojdiecgfeaaaVector
namespace Go.Proofs.Ytgnojdiecgfeaaa

theorem cnt_le {p q : Int → Bool} {a : Int} {m : Nat} (h : ∀ x, a ≤ x → x < a + m → p x = true → q x = true) : cnt p a m ≤ cnt q a m := by
  induction m with
  | zero => simp [cnt]
  | succ m ih =>
    have h1 := ih (fun x h1 h2 => h x h1 (by omega))
    have h2 := h (a + m) (by omega) (by omega)
    simp only [cnt]
    cases hp : p (a + m) with
    | false => simp; split <;> omega
    | true => rw [h2 hp]; simp; omega
theorem cnt_not (p : Int → Bool) (a : Int) (m : Nat) : cnt (fun x => !p x) a m = m - cnt p a m := by
  induction m with
  | zero => simp [cnt]
  | succ m ih => simp only [cnt, ih]; by_cases hp : p (a + m) = true <;> simp [hp] <;> omega
theorem cnt_zero {p : Int → Bool} {a : Int} {m : Nat} (h : cnt p a m = 0) : ∀ x, a ≤ x → x < a + m → p x = false := by
  induction m with
  | zero => intro x h1 h2; omega
  | succ m ih =>
    intro x h1 h2
    simp only [cnt] at h
    have h3 := (cnt_nonneg p a m).1
    cases hp : p (a + m) with
    | true => rw [hp] at h; simp at h; omega
    | false =>
      rw [hp] at h
      by_cases hx : x = a + m
      · subst hx; exact hp
      · exact ih (by simpa using h) x h1 (by omega)
theorem short_no {per : Int} {on : List Bool} {es : List Ed} (h : shortR per on es = false) : ∀ x : Int, 0 ≤ x → x < 0 + (per.toNat : Int) → shortB (onAt on es x) = false := by
  intro x h1 h2
  unfold shortR rowsF at h
  rw [List.any_eq_false] at h
  have := h (onAt on es x) (List.mem_map.2 ⟨x.toNat, by rw [List.mem_range]; omega, by rw [Int.toNat_of_nonneg h1]⟩)
  simpa using this
theorem shortB_leg {b : List Bool} (h : shortB b = false) {leg : Nat} (hl : leg < 3) : (b.getD (2 * leg) false && b.getD (2 * leg + 1) false) = false := by
  unfold shortB at h
  simp only [Bool.or_eq_false_iff] at h
  match leg, hl with
  | 0, _ => exact h.1.1
  | 1, _ => exact h.1.2
  | 2, _ => exact h.2

section
variable {per : Int} {on : List Bool} {es : List Ed} {leg : Nat} {cur : Int}
theorem high_ge (h : err per on es = 0) : tms per on es leg 0 ≤ hgh per on es leg cur := by
  rw [hgh_cnt h]
  unfold tms highR tmR
  rw [if_pos (err_ok h).1]
  exact cnt_le fun x _ _ hx => by
    simp only [selB] at hx
    unfold highB
    rw [hx]
    rfl
theorem high_le (h : err per on es = 0) (hl : leg < 3) : hgh per on es leg cur ≤ per - tms per on es leg 1 := by
  obtain ⟨hc, hs⟩ := err_ok h
  obtain ⟨hp1, _, _⟩ := chk_zero hc
  rw [hgh_cnt h]
  unfold tms highR tmR
  rw [if_pos hc]
  have h1 : cnt (fun t => highB leg (decide (cur < 0)) (onAt on es t)) 0 per.toNat ≤ cnt (fun t => !selB leg 1 (onAt on es t)) 0 per.toNat := by
    refine cnt_le fun x h1 h2 hx => ?_
    have h3 := shortB_leg (short_no hs x h1 h2) hl
    simp only [highB, selB] at hx ⊢
    revert h3 hx
    cases (onAt on es x).getD (2 * leg) false <;> cases (onAt on es x).getD (2 * leg + 1) false <;> simp
  rw [cnt_not (fun t => selB leg 1 (onAt on es t))] at h1
  omega
theorem high_eq0 (h : err per on es = 0) (hz : tms per on es leg 2 = 0) : hgh per on es leg cur = tms per on es leg 0 := by
  obtain ⟨hc, _⟩ := err_ok h
  rw [hgh_cnt h]
  unfold tms highR tmR
  unfold tms tmR at hz
  rw [if_pos hc] at hz ⊢
  have h0 := cnt_zero hz
  refine cnt_congr fun x h1 h2 => ?_
  have h3 := h0 x h1 h2
  simp only [highB, selB] at h3 ⊢
  revert h3
  cases (onAt on es x).getD (2 * leg) false <;> cases (onAt on es x).getD (2 * leg + 1) false <;> simp
theorem tms_bd {j : Nat} : 0 ≤ tms per on es leg j ∧ tms per on es leg j ≤ 4096 := by
  unfold tms
  split
  · rename_i hc
    obtain ⟨_, hp2, _⟩ := chk_zero hc
    have := tmR_bd on es leg j per.toNat
    omega
  · omega
theorem volt_le {k : Int} (h : err per on es = 0) (hl : leg < 3) : voltP per on es leg cur k ≤ lnk k := by
  obtain ⟨hc, _⟩ := err_ok h
  obtain ⟨hp1, _, _⟩ := chk_zero hc
  have hh := high_le (cur := cur) h hl
  have hb := @tms_bd per on es leg 1
  have hk := lnk_bd k
  unfold voltP voltF
  rw [if_pos h]
  have e1 : hgh per on es leg cur * lnk k ≤ per * lnk k := Int.mul_le_mul_of_nonneg_right (by omega) hk.1
  have e2 : hgh per on es leg cur * lnk k < (lnk k + 1) * per := by
    rw [Int.add_mul, Int.one_mul, Int.mul_comm (lnk k) per]; omega
  have := Int.ediv_lt_of_lt_mul (by omega) e2
  omega
end
theorem lnk_idem (k : Int) : lnk (lnk k) = lnk k := by
  have := lnk_bd k
  show clipI (lnk k) 0 1048576 = lnk k
  unfold clipI
  rw [if_neg (by omega), if_neg (by omega)]

end Go.Proofs.Ytgnojdiecgfeaaa
