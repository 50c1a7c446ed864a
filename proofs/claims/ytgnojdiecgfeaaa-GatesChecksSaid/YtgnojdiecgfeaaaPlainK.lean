/- Plain facts: signals of layer 24 have no shorted leg; the voltages differ by the dead time at most. -/
import Derived.Test.YtgnojdiecgfeaaaPlainJ
import Derived.Test.YtgnojdiecgfeaaaPlainD
namespace Go.Proofs.Ytgnojdiecgfeaaa

theorem onL_short (x : Nat → Lg) : shortB (onL x) = false := by
  have h : ∀ s : Int, (s == 2 && s == 1) = false := by
    intro s
    by_cases h : s = 2
    · subst h; rfl
    · have : (s == 2) = false := by simpa using h
      rw [this]; rfl
  show ((_ && _) || (_ && _) || (_ && _)) = false
  simp only [onL, List.getD_cons_zero, List.getD_cons_succ]
  rw [h, h, h]
  rfl
theorem es_short {r : Rq} (h : ∀ l, l < 3 → Lok (r.x l)) (per : Int) : shortR per (onL r.x) (r.es per.toNat) = false := by
  unfold shortR rowsF
  rw [List.any_eq_false]
  intro x hx
  obtain ⟨t, ht, rfl⟩ := List.mem_map.1 hx
  rw [List.mem_range] at ht
  rw [onAt_es h ht, onL_short]
  simp
theorem es_err {r : Rq} (h : ∀ l, l < 3 → Lok (r.x l)) {per : Int} (h1 : 64 ≤ per) (h2 : per ≤ 4096) : err per (onL r.x) (r.es per.toNat) = 0 := err_zero (es_chk h1 h2) (es_short h per)
theorem cnt_split (p q : Int → Bool) (a : Int) (m : Nat) (h : ∀ x, a ≤ x → x < a + m → (p x && q x) = false) : cnt (fun x => p x || q x) a m = cnt p a m + cnt q a m := by
  induction m with
  | zero => simp [cnt]
  | succ m ih =>
    have h1 := ih (fun x h1 h2 => h x h1 (by omega))
    have h2 := h (a + m) (by omega) (by omega)
    simp only [cnt, h1]
    obtain ⟨x, hx⟩ : ∃ x, p (a + m) = x := ⟨_, rfl⟩
    obtain ⟨y, hy⟩ : ∃ y, q (a + m) = y := ⟨_, rfl⟩
    rw [hx, hy] at h2
    simp only [hx, hy]
    cases x <;> cases y <;> simp at h2 ⊢ <;> omega
/-- The high counts of a leg that is not shorted: those of the upper switch, with a current away from the link those without a switch, too. -/
theorem high_none {per : Int} {on : List Bool} {es : List Ed} {leg : Nat} {cur : Int} (h : err per on es = 0) : hgh per on es leg cur = tms per on es leg 0 + if cur < 0 then tms per on es leg 2 else 0 := by
  obtain ⟨hc, _⟩ := err_ok h
  rw [hgh_cnt h]
  unfold tms highR tmR
  rw [if_pos hc, if_pos hc]
  by_cases hn : cur < 0
  · rw [if_pos hn, ← cnt_split]
    · refine cnt_congr fun x h1 h2 => ?_
      simp only [highB, selB, hn, decide_true]
      cases (onAt on es x).getD (2 * leg) false <;> cases (onAt on es x).getD (2 * leg + 1) false <;> rfl
    · intro x h1 h2
      simp only [selB]
      cases (onAt on es x).getD (2 * leg) false <;> cases (onAt on es x).getD (2 * leg + 1) false <;> rfl
  · rw [if_neg hn, Int.add_zero]
    refine cnt_congr fun x h1 h2 => ?_
    simp only [highB, selB, hn, decide_false]
    cases (onAt on es x).getD (2 * leg) false <;> cases (onAt on es x).getD (2 * leg + 1) false <;> rfl

end Go.Proofs.Ytgnojdiecgfeaaa
