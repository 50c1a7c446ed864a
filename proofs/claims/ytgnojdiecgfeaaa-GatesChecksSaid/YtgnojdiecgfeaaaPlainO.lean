/- Plain facts: the signals of layer 24 pass the checker; the times of a leg add up to the period. -/
import Derived.Test.YtgnojdiecgfeaaaPlainN
import Derived.Test.YtgnojdiecgfeaaaPlainL
import Derived.Test.YtgnojdiecgfeaaaPlainK
namespace Go.Proofs.Ytgnojdiecgfeaaa

theorem sf_tick {r : Rq} (h : ∀ l, l < 3 → Lok (r.x l)) (hd : r.dead ≤ 4096) (t : Nat) (la : Nat → Int) (hj : ∀ l, l < 3 → (r.at_ l t).j = min (t - la l) 4096) :
    ∃ la', sfR r.dead (some ⟨onL (fun l => r.at_ l t), la⟩) (r.tick t) = some ⟨onL (fun l => r.at_ l (t + 1)), la'⟩ ∧ ∀ l, l < 3 → (r.at_ l (t + 1)).j = min (((t + 1 : Nat) : Int) - la' l) 4096 := by
  have p := fun (m : Nat) (hm : m < 3) (la : Nat → Int) (hj : (r.at_ m t).j = min (t - la m) 4096) => sf_leg (dead := r.dead) (t := t) (fun l => r.at_ l t) (fun l => r.at_ l (t + 1)) la hm (v := r.want m t) ((Rq.lok3 h m hm t).s) (wantF_cases _ _ _ _) rfl hj hd
  obtain ⟨la0, e0, k0, j0⟩ := p 0 (by omega) la (hj 0 (by omega))
  obtain ⟨la1, e1, k1, j1⟩ := p 1 (by omega) la0 (by rw [k0 1 (by omega)]; exact hj 1 (by omega))
  obtain ⟨la2, e2, k2, j2⟩ := p 2 (by omega) la1 (by rw [k1 2 (by omega), k0 2 (by omega)]; exact hj 2 (by omega))
  refine ⟨la2, ?_, fun l hl => ?_⟩
  · unfold Rq.tick Rq.e
    rw [sfR_append, sfR_append]
    rw [mixL_zero] at e0
    rw [e0, e1, e2]
    rfl
  · have hc : ((t + 1 : Nat) : Int) = (t : Int) + 1 := by omega
    rw [hc]
    match l, hl with
    | 0, _ => rw [k2 0 (by omega), k1 0 (by omega)]; exact j0
    | 1, _ => rw [k2 1 (by omega)]; exact j1
    | 2, _ => exact j2
theorem sf_es {r : Rq} (h : ∀ l, l < 3 → Lok (r.x l)) (hd : r.dead ≤ 4096) (t : Nat) :
    ∃ la, sfR r.dead (some (sf0 r.x)) (r.es t) = some ⟨onL (fun l => r.at_ l t), la⟩ ∧ ∀ l, l < 3 → (r.at_ l t).j = min ((t : Int) - la l) 4096 := by
  induction t with
  | zero =>
    refine ⟨fun l => -(r.x l).j, rfl, fun l hl => ?_⟩
    have h1 := (h l hl).j1
    show (r.x l).j = min (((0 : Nat) : Int) - -(r.x l).j) 4096
    omega
  | succ t ih =>
    obtain ⟨la, h1, h2⟩ := ih
    obtain ⟨la', h3, h4⟩ := sf_tick h hd t la h2
    exact ⟨la', by rw [Rq.es_succ, sfR_append, h1, h3], h4⟩
theorem getD_onL (y : Nat → Lg) {l : Nat} (hl : l < 3) : (onL y).getD (2 * l) false = ((y l).s == 2) ∧ (onL y).getD (2 * l + 1) false = ((y l).s == 1) := by
  match l, hl with
  | 0, _ => exact ⟨rfl, rfl⟩
  | 1, _ => exact ⟨rfl, rfl⟩
  | 2, _ => exact ⟨rfl, rfl⟩
/-- A leg out of its switches and the count of its last turn-off. -/
theorem leg_of {y : Nat → Lg} {l : Nat} (hl : l < 3) (hs : (y l).s = 0 ∨ (y l).s = 1 ∨ (y l).s = 2) : (if (onL y).getD (2 * l) false = true then (2 : Int) else if (onL y).getD (2 * l + 1) false = true then 1 else 0) = (y l).s ∧ (if (onL y).getD (2 * l + 1) false = true then (1 : Int) else if (onL y).getD (2 * l) false = true then 2 else 0) = (y l).s := by
  obtain ⟨h1, h2⟩ := getD_onL y hl
  rw [h1, h2]
  rcases hs with h | h | h <;> rw [h] <;> exact ⟨rfl, rfl⟩
theorem sfEnd_es {r : Rq} (h : ∀ l, l < 3 → Lok (r.x l)) {per : Int} (hp : 0 ≤ per) {la : Nat → Int} (hj : ∀ l, l < 3 → (r.at_ l per.toNat).j = min (((per.toNat : Nat) : Int) - la l) 4096) (l : Nat) (hl : l < 3) :
    sfEnd per ⟨onL (fun l => r.at_ l per.toNat), la⟩ l = r.at_ l per.toNat := by
  have h1 := (leg_of (y := fun l => r.at_ l per.toNat) hl (Rq.lok3 h l hl per.toNat).s).1
  have h2 := hj l hl
  have h3 : ((per.toNat : Nat) : Int) = per := by omega
  rw [h3] at h2
  unfold sfEnd
  simp only
  rw [h1, ← h2]
theorem cnt_three (p q s : Int → Bool) (n : Nat) (h : ∀ x : Int, 0 ≤ x → x < n → (if p x = true then (1 : Int) else 0) + (if q x = true then 1 else 0) + (if s x = true then 1 else 0) = 1) : cnt p 0 n + cnt q 0 n + cnt s 0 n = n := by
  induction n with
  | zero => simp [cnt]
  | succ n ih =>
    have h1 := ih (fun x h1 h2 => h x h1 (by omega))
    have h2 := h (0 + n) (by omega) (by omega)
    simp only [cnt]
    omega
theorem times_sum {r : Rq} (h : ∀ l, l < 3 → Lok (r.x l)) {per : Int} (h1 : 64 ≤ per) (h2 : per ≤ 4096) (l : Nat) (hl : l < 3) :
    tms per (onL r.x) (r.es per.toNat) l 0 + tms per (onL r.x) (r.es per.toNat) l 1 + tms per (onL r.x) (r.es per.toNat) l 2 = per := by
  unfold tms
  rw [if_pos (es_chk h1 h2), if_pos (es_chk h1 h2), if_pos (es_chk h1 h2)]
  unfold tmR
  rw [cnt_three]
  · omega
  · intro x hx0 hx1
    obtain ⟨t, rfl⟩ : ∃ t : Nat, x = (t : Int) := ⟨x.toNat, by omega⟩
    rw [onAt_es h (show t < per.toNat by omega), (sel_onL _ hl).1, (sel_onL _ hl).2.1, (sel_onL _ hl).2.2]
    rcases (Rq.lok3 h l hl (t + 1)).s with hs | hs | hs <;> simp [hs]

end Go.Proofs.Ytgnojdiecgfeaaa
