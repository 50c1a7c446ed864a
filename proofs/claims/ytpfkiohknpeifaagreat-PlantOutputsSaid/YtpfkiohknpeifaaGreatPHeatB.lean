/- The heats after a tick: plain; cells of a made slice that are written one by one. -/
import Derived.Test.YtpfkiohknpeifaaGreatPHeatC
import Derived.Laws.MakeOwn
import Derived.Test.YtpfkiohknpeifaaGreatMcD
namespace Go.Proofs.YtpfkiohknpeifaaGreat
open Go.RowKit
/-- A heat, moved into its range. -/
def hcl (X : List Int) (i : Nat) : Int := clipI (g X i) (-1099511627776) 1099511627776
theorem hcl_bd (X : List Int) (i : Nat) : -1099511627776 ≤ hcl X i ∧ hcl X i ≤ 1099511627776 := clip_bd _ _ _ (by omega)
/-- What flows into a node, out of the surroundings and the first m nodes. -/
def hfl (H : Hc) (X : List Int) (amb : Int) (i m : Nat) : Int := g H.Am i * (warmV amb - hcl X i) + sumN (fun j => lk H i j * (hcl X j - hcl X i)) m
/-- The heat of a node after a tick. -/
def stpV (H : Hc) (X Pw : List Int) (amb : Int) (i : Nat) : Int :=
  clipI (hcl X i + hfl H X amb i 3 / 65536 + g H.G i * clipI (g Pw i) 0 1073741824) (-1099511627776) 1099511627776
def stps (H : Hc) (X Pw : List Int) (amb : Int) (k : Nat) : List Int := (List.range k).map (stpV H X Pw amb)
theorem stps_succ (H : Hc) (X Pw : List Int) (amb : Int) (k : Nat) : stps H X Pw amb (k + 1) = stps H X Pw amb k ++ [stpV H X Pw amb k] := by unfold stps; rw [List.range_succ, List.map_append]; rfl
theorem stps_len (H : Hc) (X Pw : List Int) (amb : Int) (k : Nat) : (stps H X Pw amb k).length = k := by simp [stps]
theorem sumN_abs {f : Nat → Int} {A : Int} : ∀ {n : Nat}, (∀ i, i < n → -A ≤ f i ∧ f i ≤ A) → -(n * A) ≤ sumN f n ∧ sumN f n ≤ n * A
  | 0, _ => by simp [sumN]
  | n + 1, h => by
    have h1 := sumN_abs (f := f) (A := A) (n := n) fun i hi => h i (by omega)
    have h2 := h n (by omega)
    have e : ((n + 1 : Nat) : Int) * A = n * A + A := by rw [Int.natCast_add, Int.add_mul]; simp
    rw [e]
    simp only [sumN]
    omega
theorem share_mul {a b A : Int} (h1 : 0 ≤ a) (h2 : a ≤ 65536) (hb : -A ≤ b ∧ b ≤ A) : -(65536 * A) ≤ a * b ∧ a * b ≤ 65536 * A := mul_bd (a := a) (b := b) (A := 65536) (B := A) (by omega) hb
theorem hfl_bd {H : Hc} {n : Nat} (ok : HtOk H n) (X : List Int) (amb : Int) {i m : Nat} (hi : i < n) (hm : m ≤ 3) (hn : m ≤ n) : -576460752303423488 ≤ hfl H X amb i m ∧ hfl H X amb i m ≤ 576460752303423488 := by
  have h1 := hcl_bd X i
  have h2 := warmV_bd amb
  have h3 := ok.a i hi
  have m1 := share_mul (b := warmV amb - hcl X i) (A := 1649267441664) h3.1 h3.2 (by omega)
  have m2 := sumN_abs (f := fun j => lk H i j * (hcl X j - hcl X i)) (A := 144115188075855872) (n := m) fun j hj => by
    have h4 := ok.l i hi j (by omega)
    have h5 := hcl_bd X j
    exact share_mul (b := hcl X j - hcl X i) (A := 2199023255552) h4.1 h4.2 (by omega)
  have m3 : (m : Int) * 144115188075855872 ≤ 3 * 144115188075855872 := by omega
  unfold hfl
  omega
theorem hfl_succ (H : Hc) (X : List Int) (amb : Int) (i m : Nat) : hfl H X amb i (m + 1) = hfl H X amb i m + lk H i m * (hcl X m - hcl X i) := by unfold hfl; simp only [sumN]; omega
theorem hfl_zero (H : Hc) (X : List Int) (amb : Int) (i : Nat) : hfl H X amb i 0 = g H.Am i * (warmV amb - hcl X i) := by unfold hfl; simp only [sumN]; omega
theorem rows_app (X : List Int) (x : Int) : (rows (X ++ [x])).flatten = (rows X).flatten ++ [.int .i64 x] := by simp [rows]
theorem rows_length (X : List Int) : (rows X).length = X.length := by simp [rows]
theorem intInfo : (Tryz.prog.info? 3).map (fun i => (i.zero, i.size, i.bytes)) = some (some (.int .i64 0), 1, 8) := by kernel_rfl
theorem info_of {P : Program} {t : TypeId} {z : Value} {s b : Nat} (h : (P.info? t).map (fun i => (i.zero, i.size, i.bytes)) = some (some z, s, b)) : ∃ i, P.info? t = some i ∧ i.zero = some z ∧ i.size = s ∧ i.bytes = b := by
  cases hi : P.info? t with
  | none => rw [hi] at h; cases h
  | some i =>
    rw [hi] at h
    simp only [Option.map_some, Option.some.injEq, Prod.mk.injEq] at h
    exact ⟨i, rfl, h.1, h.2.1, h.2.2⟩
theorem make3 (w : World) : (Instr.makeSlice 22 (.int .i64 3) (.int .i64 3)).run Tryz.prog w = .ok (.slice (some ⟨w.heap.size, 0, none⟩) 3 3) (w.alloc (.cells #[.int .i64 0, .int .i64 0, .int .i64 0] 3)) := by
  obtain ⟨i, hi, hz, hs, hb⟩ := info_of intInfo
  have := run_makeSlice (P := Tryz.prog) w 22 3 i (.int .i64 0) Tryz.underlying22 hi hz .i64 .i64 3 3 (by decide) (by decide) (by rw [hs]; decide) (by rw [hb]; decide) (by decide)
  have e : madeCells (Value.int .i64 0).cells (Int.toNat 3 * 1) = #[.int .i64 0, .int .i64 0, .int .i64 0] := by kernel_rfl
  rw [this, hs, e]
  rfl
/-- Block g holds n numbers, of which the first k are those of f. -/
def Fil (w : World) (g : Nat) (f : Nat → Int) (n k : Nat) : Prop := ∃ cs, Blk w g 3 cs ∧ cs.size = n ∧ ∀ j, j < k → cs[j]? = some (.int .i64 (f j))
section
variable {w w' : World} {b : Nat} {f : Nat → Int} {n k : Nat}
theorem Fil.lt (h : Fil w b f n k) : b < w.heap.size := by obtain ⟨cs, h, _⟩ := h; exact h.lt
theorem Fil.at0 (w : World) (f : Nat → Int) : Fil (w.alloc (.cells #[.int .i64 0, .int .i64 0, .int .i64 0] 3)) w.heap.size f 3 0 := ⟨_, Blk.new w _ _, rfl, fun j hj => by omega⟩
theorem Fil.set (h : Fil w b f n k) (hk : k < n) : Fil (w.setCell ⟨b, k, none⟩ (.int .i64 (f k))) b f n (k + 1) := by
  obtain ⟨cs, h1, h2, h3⟩ := h
  refine ⟨_, h1.set_ k _, by simpa using h2, fun j hj => ?_⟩
  by_cases e : j = k
  · subst e
    rw [Array.getElem?_setIfInBounds_self_of_lt (by omega)]
  · rw [Array.getElem?_setIfInBounds_ne (by omega)]
    exact h3 j (by omega)
theorem Fil.below {B : Nat} (h : Fil w b f n k) (hb : Below B w w') (hg : b < B) : Fil w' b f n k := by obtain ⟨cs, h1, h2, h3⟩ := h; exact ⟨cs, h1.below hb hg, h2, h3⟩
theorem Fil.frozen (h : Fil w b f n k) (i : Nat) : w.frozen? ⟨b, i, none⟩ = false := by obtain ⟨cs, h1, _⟩ := h; exact h1.frozen i
theorem Fil.any (h : Fil w b f n k) {i : Nat} (hi : i < n) : ∃ u, w.cell? ⟨b, i, none⟩ = some u := by
  obtain ⟨cs, h1, h2, _⟩ := h
  rw [h1.cell, Array.getElem?_eq_getElem (by omega)]
  exact ⟨_, rfl⟩
theorem Fil.cell (h : Fil w b f n k) {i : Nat} (hi : i < k) : w.cell? ⟨b, i, none⟩ = some (.int .i64 (f i)) := by
  obtain ⟨cs, h1, _, h3⟩ := h
  rw [h1.cell, h3 i hi]
theorem Fil.sl (h : Fil w b f n n) {B : Nat} (hB : b < B) : Sl w B 1 (some ⟨b, 0, none⟩) (rows ((List.range n).map f)) := by
  refine ⟨rows_len _, fun _ => ⟨_, rfl, hB, fun k r hr j u hu => ?_⟩⟩
  have hk : k < n := by
    have := (List.getElem?_eq_some_iff.1 hr).1
    simpa [rows] using this
  have hr2 : r = [.int .i64 (f k)] := by
    simp [rows, hk] at hr
    exact hr.symm
  subst hr2
  have hj : j = 0 := by have := (List.getElem?_eq_some_iff.1 hu).1; simp at this; omega
  subst hj
  simp at hu
  subst hu
  have e : (⟨b, 0, none⟩ : Addr).add (k * 1 + 0) = ⟨b, k, none⟩ := by unfold Addr.add; split <;> simp_all
  rw [e, h.cell hk]
theorem Fil.drewN (h : Fil w b f n k) (m : Nat) : Fil (w.drewN m) b f n k := h
theorem Fil.grown {row : Option Nat} (h : Fil w b f n k) (hb : w.grownBy w' row) (hg : some b ≠ row) : Fil w' b f n k := by obtain ⟨cs, h1, h2, h3⟩ := h; exact ⟨cs, h1.grown hb hg, h2, h3⟩
theorem Fil.alloc (h : Fil w b f n k) (o : Obj) : Fil (w.alloc o) b f n k := by obtain ⟨cs, h1, h2, h3⟩ := h; exact ⟨cs, h1.alloc o, h2, h3⟩
end
end Go.Proofs.YtpfkiohknpeifaaGreat
