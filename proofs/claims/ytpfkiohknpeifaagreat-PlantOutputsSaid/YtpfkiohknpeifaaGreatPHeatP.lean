/- The heat network: what is wrong with it; how it lies in memory. -/
import Derived.Test.YtpfkiohknpeifaaGreatPShaft2
namespace Go.Proofs.YtpfkiohknpeifaaGreat
open Go.RowKit
/-- The numbers of a heat network. -/
structure Hc where
  G : List Int
  Am : List Int
  Lk : List (List Int)
def lk (H : Hc) (i j : Nat) : Int := g (H.Lk.getD i []) j
def sumN (f : Nat → Int) : Nat → Int
  | 0 => 0
  | n + 1 => sumN f n + f n
theorem sumN_bd {f : Nat → Int} {A : Int} : ∀ {n : Nat}, (∀ i, i < n → 0 ≤ f i ∧ f i ≤ A) → 0 ≤ sumN f n ∧ sumN f n ≤ n * A
  | 0, _ => by simp [sumN]
  | n + 1, h => by
    have h1 := sumN_bd (f := f) (A := A) (n := n) fun i hi => h i (by omega)
    have h2 := h n (by omega)
    have e : ((n + 1 : Nat) : Int) * A = n * A + A := by rw [Int.natCast_add, Int.add_mul]; simp
    rw [e]
    simp only [sumN]
    omega
/-- What is wrong with a link of the network. -/
def ccE (H : Hc) (i j : Nat) : Int := if wiB (lk H i j) 0 65536 = true then (if lk H i j ≠ lk H j i ∨ (i = j ∧ lk H i j ≠ 0) then 2 else 0) else 3
/-- What is wrong with a node. -/
def ncE (H : Hc) (n i : Nat) : Int :=
  if wiB (g H.G i) 0 65536 = true ∧ wiB (g H.Am i) 0 65536 = true then
    (if fe (ccE H i) n ≠ 0 then fe (ccE H i) n else if 65536 < g H.Am i + sumN (lk H i) n then 16 else 0) else 3
def rwE (H : Hc) (n i : Nat) : Int := if (H.Lk.getD i []).length = n then 0 else 11
/-- What is wrong with a network. -/
def htCode (H : Hc) : Int :=
  if H.G.length = 0 then 11 else if 8 < H.G.length then 4
  else if H.Am.length ≠ H.G.length ∨ H.Lk.length ≠ H.G.length then 11
  else if fe (rwE H H.G.length) H.G.length ≠ 0 then fe (rwE H H.G.length) H.G.length
  else fe (ncE H H.G.length) H.G.length
structure HtOk (H : Hc) (n : Nat) : Prop where
  n0 : 0 < n
  n8 : n ≤ 8
  lg : H.G.length = n
  la : H.Am.length = n
  ll : H.Lk.length = n
  lr : ∀ i, i < n → (H.Lk.getD i []).length = n
  g : ∀ i, i < n → 0 ≤ g H.G i ∧ g H.G i ≤ 65536
  a : ∀ i, i < n → 0 ≤ Go.Proofs.YtpfkiohknpeifaaGreat.g H.Am i ∧ Go.Proofs.YtpfkiohknpeifaaGreat.g H.Am i ≤ 65536
  l : ∀ i, i < n → ∀ j, j < n → 0 ≤ lk H i j ∧ lk H i j ≤ 65536
theorem ht_ok {H : Hc} (h : htCode H = 0) : HtOk H H.G.length := by
  unfold htCode at h
  split at h
  · omega
  rename_i h0
  split at h
  · omega
  rename_i h8
  split at h
  · omega
  rename_i hl
  split at h
  · omega
  rename_i hr
  have hr' : fe (rwE H H.G.length) H.G.length = 0 := by omega
  have h1 := fe_zero hr'
  have h2 := fe_zero h
  have h3 : ∀ i, i < H.G.length → (wiB (g H.G i) 0 65536 = true ∧ wiB (g H.Am i) 0 65536 = true) ∧ fe (ccE H i) H.G.length = 0 := by
    intro i hi
    have := h2 i hi
    unfold ncE at this
    split at this
    · rename_i q
      split at this
      · contradiction
      · rename_i q2
        exact ⟨q, by omega⟩
    · omega
  refine ⟨by omega, by omega, rfl, by omega, by omega, fun i hi => ?_, fun i hi => wiB_iff.1 (h3 i hi).1.1, fun i hi => wiB_iff.1 (h3 i hi).1.2, fun i hi j hj => ?_⟩
  · have := h1 i hi
    unfold rwE at this
    split at this
    · assumption
    · omega
  · have := fe_zero (h3 i hi).2 j hj
    unfold ccE at this
    split at this
    · rename_i q
      exact wiB_iff.1 q
    · omega
/-- The network's slices lie below block B. -/
structure Hy (w : World) (B : Nat) (H : Hc) (A1 A2 A3 : Option Addr) (n1 n2 n3 : Nat) (PA : Nat → Option Addr) (PC : Nat → Nat) : Prop where
  s1 : Sl w B 1 A1 (rows H.G)
  s2 : Sl w B 1 A2 (rows H.Am)
  r : 0 < H.Lk.length → ∃ ad, A3 = some ad ∧ ad.block < B ∧ ∀ i, i < H.Lk.length → w.cell? (ad.add i) = some (.slice (PA i) (H.Lk.getD i []).length (PC i))
  s3 : ∀ i, i < H.Lk.length → Sl w B 1 (PA i) (rows (H.Lk.getD i []))
  e1 : n1 = H.G.length
  e2 : n2 = H.Am.length
  e3 : n3 = H.Lk.length
section
variable {w w' : World} {B B' : Nat} {H : Hc} {A1 A2 A3 : Option Addr} {n1 n2 n3 : Nat} {PA : Nat → Option Addr} {PC : Nat → Nat}
theorem Hy.keep (h : Hy w B H A1 A2 A3 n1 n2 n3 PA PC) (hk : ∀ p : Addr, p.block < B → w'.cell? p = w.cell? p) : Hy w' B H A1 A2 A3 n1 n2 n3 PA PC :=
  ⟨h.s1.keep hk, h.s2.keep hk, fun hn => by
    obtain ⟨ad, e, hb, hc⟩ := h.r hn
    exact ⟨ad, e, hb, fun i hi => (hk _ (by rw [block_of_add]; exact hb)).trans (hc i hi)⟩, fun i hi => (h.s3 i hi).keep hk, h.e1, h.e2, h.e3⟩
theorem Hy.below (h : Hy w B H A1 A2 A3 n1 n2 n3 PA PC) (hb : Below B w w') : Hy w' B H A1 A2 A3 n1 n2 n3 PA PC := h.keep fun _ hp => hb.cell hp
theorem Hy.more (h : Hy w B H A1 A2 A3 n1 n2 n3 PA PC) (hB : B ≤ B') : Hy w B' H A1 A2 A3 n1 n2 n3 PA PC :=
  ⟨h.s1.more hB, h.s2.more hB, fun hn => by
    obtain ⟨ad, e, hb, hc⟩ := h.r hn
    exact ⟨ad, e, by omega, hc⟩, fun i hi => (h.s3 i hi).more hB, h.e1, h.e2, h.e3⟩
theorem Hy.alloc (h : Hy w B H A1 A2 A3 n1 n2 n3 PA PC) (hB : B ≤ w.heap.size) (o : Obj) : Hy (w.alloc o) B H A1 A2 A3 n1 n2 n3 PA PC := h.keep fun p hp => World.cell?_alloc_lt w o p (by omega)
theorem Hy.to (h : Hy w w.heap.size H A1 A2 A3 n1 n2 n3 PA PC) (hb : Below w.heap.size w w') : Hy w' w'.heap.size H A1 A2 A3 n1 n2 n3 PA PC := (h.below hb).more hb.size
theorem Hy.new (h : Hy w w.heap.size H A1 A2 A3 n1 n2 n3 PA PC) (o : Obj) : Hy (w.alloc o) (w.alloc o).heap.size H A1 A2 A3 n1 n2 n3 PA PC := (h.alloc (Nat.le_refl _) o).more (by simp)
theorem Hy.drew (h : Hy w B H A1 A2 A3 n1 n2 n3 PA PC) : Hy w.drew B H A1 A2 A3 n1 n2 n3 PA PC := h.keep fun _ _ => rfl
theorem Hy.drewN (h : Hy w B H A1 A2 A3 n1 n2 n3 PA PC) (k : Nat) : Hy (w.drewN k) B H A1 A2 A3 n1 n2 n3 PA PC := h.keep fun _ _ => rfl
/-- The slice of a node's links, and a link of it. -/
theorem Hy.row (h : Hy w B H A1 A2 A3 n1 n2 n3 PA PC) {i : Nat} (hi : i < H.Lk.length) : ∃ ad p, A3 = some ad ∧ ad.add i = p ∧ p.block < B ∧ w.cell? p = some (.slice (PA i) (H.Lk.getD i []).length (PC i)) := by
  obtain ⟨ad, rfl, hb, hc⟩ := h.r (by omega)
  exact ⟨ad, _, rfl, rfl, by rw [block_of_add]; exact hb, hc i hi⟩
theorem Hy.row' {ad : Addr} (h : Hy w B H A1 A2 (some ad) n1 n2 n3 PA PC) {i : Nat} (hi : i < H.Lk.length) : ∃ p, ad.add i = p ∧ p.block < B ∧ w.cell? p = some (.slice (PA i) (H.Lk.getD i []).length (PC i)) := by
  obtain ⟨ad', p, e, h1, h2, h3⟩ := h.row hi
  injection e with e
  subst e
  exact ⟨p, h1, h2, h3⟩
theorem Hy.ent (h : Hy w B H A1 A2 A3 n1 n2 n3 PA PC) {i j : Nat} (hi : i < H.Lk.length) (hj : j < (H.Lk.getD i []).length) : ∃ ad p, PA i = some ad ∧ ad.add j = p ∧ p.block < B ∧ w.cell? p = some (.int .i64 (lk H i j)) := (h.s3 i hi).at1 hj
end
end Go.Proofs.YtpfkiohknpeifaaGreat
