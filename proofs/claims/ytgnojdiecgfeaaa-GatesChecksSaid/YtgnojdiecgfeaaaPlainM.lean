/- Plain facts: a period of legs that are always asked for the same; what is asked for where a switch is on. -/
import Derived.Test.YtgnojdiecgfeaaaPlainJ
import Derived.Test.YtgnojdiecgfeaaaAt23
namespace Go.Proofs.Ytgnojdiecgfeaaa

theorem lok_legOk {x : Lg} (h : Lok x) : legOk x = true := by
  obtain ⟨h1, h2, h3⟩ := h
  simp only [legOk, Bool.and_eq_true, decide_eq_true_eq]
  omega
theorem lok_rng {z : Nat → Lg} (h : ∀ l, l < 3 → Lok (z l)) {per dead : Int} (h1 : 64 ≤ per) (h2 : per ≤ 4096) (h3 : 1 ≤ dead) (h4 : dead ≤ 1024) : rngOk (z 0) (z 1) (z 2) per dead = true := by
  simp only [rngOk, lok_legOk (h 0 (by omega)), lok_legOk (h 1 (by omega)), lok_legOk (h 2 (by omega)), perOk, deadOk, Bool.and_eq_true, decide_eq_true_eq]
  exact ⟨⟨⟨⟨trivial, trivial⟩, trivial⟩, h1, h2⟩, h3, h4⟩
/-- What a leg that is always or never asked for is asked for. -/
def vv (u : Nat → Bool) (l : Nat) : Int := if u l = true then 2 else 1
def qq (u : Nat → Bool) (per : Int) (l : Nat) : Int := if u l = true then per else 0
theorem dull_want (u : Nat → Bool) (per dead : Int) (z : Nat → Lg) (m t : Nat) (ht : t < per.toNat) : Rq.want ⟨per, dead, per, fun _ => 0, qq u per, z⟩ m t = vv u m := by
  show wantF 0 (qq u per m) t per = vv u m
  unfold wantF qq vv
  rw [if_neg (by omega)]
  by_cases hu : u m = true
  · rw [if_pos hu, if_pos hu, if_pos (by omega)]
  · rw [if_neg hu, if_neg hu, if_neg (by omega)]
theorem vv_ne (u : Nat → Bool) (m : Nat) : vv u m ≠ 0 := by unfold vv; split <;> decide
theorem dull_run {r : Rq} {v : Nat → Int} (h1 : 64 ≤ r.per) (hd : 1 ≤ r.dead) (hw : ∀ m, m < 3 → ∀ t, t < r.per.toNat → r.want m t = v m) (h : ∀ l, l < 3 → Lok (r.x l)) (l : Nat) (hl : l < 3) :
    Lok (r.at_ l r.per.toNat) ∧ Dul r.dead (v l) (r.at_ l r.per.toNat) ∧ 64 ≤ (r.at_ l r.per.toNat).j ∧ (Dul r.dead (v l) (r.x l) → min ((r.x l).j + 64) 4096 ≤ (r.at_ l r.per.toNat).j) := by
  obtain ⟨n, hn⟩ : ∃ n, r.per.toNat = n + 1 := ⟨r.per.toNat - 1, by omega⟩
  have p := at_dull hd (hw l hl) (h l hl).j0 n (by omega)
  rw [← hn] at p
  refine ⟨Rq.lok3 h l hl _, p.1, by omega, fun hD => ?_⟩
  rcases at_dull_from hd (hw l hl) hD r.per.toNat (Nat.le_refl _) with ⟨_, q⟩ | q
  · omega
  · omega
theorem dull_end {r : Rq} {v : Nat → Int} (h1 : 64 ≤ r.per) (hd : 1 ≤ r.dead) (hd2 : r.dead ≤ 1024) (hv : ∀ m, m < 3 → v m ≠ 0) (hw : ∀ m, m < 3 → ∀ t, t < r.per.toNat → r.want m t = v m) (h0 : ∀ m, m < 3 → Dul r.dead (v m) (r.x m) ∧ 1024 < (r.x m).j) :
    r.es r.per.toNat = [] ∧ ∀ l, l < 3 → (r.at_ l r.per.toNat).s = v l := by
  refine ⟨es_dull hd hv hw (fun m hm => ⟨(h0 m hm).1, by have := (h0 m hm).2; omega⟩) (by omega) _ (Nat.le_refl _), fun l hl => ?_⟩
  have h2 := (h0 l hl).2
  rcases at_dull_from hd (hw l hl) (h0 l hl).1 r.per.toNat (Nat.le_refl _) with ⟨q1, q2⟩ | q
  · unfold Dul at q1
    omega
  · omega
/-- Where a switch is on, the pattern asks for it. -/
theorem wants {r : Rq} {m t : Nat} : ((r.at_ m (t + 1)).s = 2 → (t : Int) < r.trip ∧ atB (r.f m) (r.o m) t = true) ∧ ((r.at_ m (t + 1)).s = 1 → (t : Int) < r.trip ∧ atB (r.f m) (r.o m) t = false) := by
  have h := at_side r m t
  unfold Rq.want wantF at h
  unfold atB
  constructor
  · intro h2
    rw [h2] at h
    split at h
    · omega
    · split at h
      · refine ⟨by omega, ?_⟩
        simp only [Bool.and_eq_true, decide_eq_true_eq]
        omega
      · omega
  · intro h2
    rw [h2] at h
    split at h
    · omega
    · split at h
      · omega
      · refine ⟨by omega, ?_⟩
        rw [Bool.and_eq_false_iff, decide_eq_false_iff_not, decide_eq_false_iff_not]
        omega

end Go.Proofs.Ytgnojdiecgfeaaa
