/- Plain facts: curves, sine and cosine, turns. Common words of the walks over machines: the value of an error, slices of numbers, curves. The walks of the small functions: clips, ranges, the number of an error, an angle's rest. -/
import Derived.Test.YtpfkiohknpeifaaGreatWords
import Derived.Test.YtpfkiohknpeifaaGreatRows
import Derived.WalkMore
import Derived.Laws.BitsAllLaws
import Derived.Laws.Bits128
namespace Go.Proofs.YtpfkiohknpeifaaGreat

/-- The first of a row of numbers that is not 0; 0 where there is none. -/
def fe (f : Nat → Int) : Nat → Int
  | 0 => 0
  | n + 1 => if fe f n = 0 then f n else fe f n
theorem fe_none {f : Nat → Int} : ∀ {n : Nat}, (∀ i, i < n → f i = 0) → fe f n = 0
  | 0, _ => rfl
  | n + 1, h => by
    have h1 := fe_none (f := f) (n := n) fun i hi => h i (by omega)
    simp only [fe, h1, if_true]
    exact h n (by omega)
theorem fe_hit {f : Nat → Int} : ∀ {n k : Nat}, k < n → (∀ i, i < k → f i = 0) → f k ≠ 0 → fe f n = f k
  | 0, k, hk, _, _ => by omega
  | n + 1, k, hk, h, hn => by
    by_cases he : k = n
    · subst he
      have h1 := fe_none h
      simp only [fe, h1, if_true]
    · have h1 := fe_hit (f := f) (n := n) (k := k) (by omega) h hn
      simp only [fe, h1, if_neg hn]
theorem fe_zero {f : Nat → Int} : ∀ {n : Nat}, fe f n = 0 → ∀ i, i < n → f i = 0
  | 0, _, i, hi => by omega
  | n + 1, h, i, hi => by
    by_cases h1 : fe f n = 0
    · simp only [fe, h1, if_true] at h
      by_cases he : i = n
      · subst he; exact h
      · exact fe_zero h1 i (by omega)
    · simp only [fe, if_neg h1] at h
      exact absurd h h1
/-- The first index of which something is true; n where there is none. -/
def ff (p : Nat → Bool) : Nat → Nat
  | 0 => 0
  | n + 1 => if ff p n < n then ff p n else if p n = true then n else n + 1
theorem ff_none {p : Nat → Bool} : ∀ {n : Nat}, (∀ i, i < n → p i = false) → ff p n = n
  | 0, _ => rfl
  | n + 1, h => by
    have h1 := ff_none (p := p) (n := n) fun i hi => h i (by omega)
    have h2 := h n (by omega)
    simp [ff, h1, h2]
theorem ff_hit {p : Nat → Bool} : ∀ {n k : Nat}, k < n → (∀ i, i < k → p i = false) → p k = true → ff p n = k
  | 0, k, hk, _, _ => by omega
  | n + 1, k, hk, h, hp => by
    by_cases he : k = n
    · subst he
      have h1 := ff_none h
      simp [ff, h1, hp]
    · have h1 := ff_hit (p := p) (n := n) (k := k) (by omega) h hp
      simp [ff, h1]
      omega

theorem mul_bd {a b A B : Int} (ha : -A ≤ a ∧ a ≤ A) (hb : -B ≤ b ∧ b ≤ B) : -(A * B) ≤ a * b ∧ a * b ≤ A * B := by
  have h1 : a.natAbs ≤ A.natAbs := by omega
  have h2 : b.natAbs ≤ B.natAbs := by omega
  have h3 : (a * b).natAbs ≤ A.natAbs * B.natAbs := by rw [Int.natAbs_mul]; exact Nat.mul_le_mul h1 h2
  have h4 : ((A.natAbs * B.natAbs : Nat) : Int) = A * B := by
    rw [Int.natCast_mul, Int.natAbs_of_nonneg (show 0 ≤ A by omega), Int.natAbs_of_nonneg (show 0 ≤ B by omega)]
  omega

def g (X : List Int) (i : Nat) : Int := X.getD i 0
/-- What is wrong with a point of a curve. -/
def cvE (X Y : List Int) (i : Nat) : Int :=
  if g X i < -1073741824 ∨ 1073741824 < g X i ∨ g Y i < -1073741824 ∨ 1073741824 < g Y i then 3
  else if 0 < i ∧ (g X i ≤ g X (i - 1) ∨ g Y i < g Y (i - 1)) then 26 else 0
/-- What is wrong with a curve. -/
def cvCode (X Y : List Int) : Int :=
  if X.length ≠ Y.length then 11 else if 32 < X.length then 4 else if X.length < 2 then 11 else fe (cvE X Y) X.length
structure CvOk (X Y : List Int) : Prop where
  len : X.length = Y.length
  two : 2 ≤ X.length
  most : X.length ≤ 32
  bd : ∀ i, i < X.length → -1073741824 ≤ g X i ∧ g X i ≤ 1073741824 ∧ -1073741824 ≤ g Y i ∧ g Y i ≤ 1073741824
  inc : ∀ i, i + 1 < X.length → g X i < g X (i + 1) ∧ g Y i ≤ g Y (i + 1)
theorem cv_ok {X Y : List Int} (h : cvCode X Y = 0) : CvOk X Y := by
  unfold cvCode at h
  split at h
  · omega
  split at h
  · omega
  split at h
  · omega
  rename_i h1 h2 h3
  have hz := fe_zero h
  refine ⟨by omega, by omega, by omega, fun i hi => ?_, fun i hi => ?_⟩
  · have := hz i hi
    unfold cvE at this
    split at this
    · omega
    · omega
  · have := hz (i + 1) hi
    unfold cvE at this
    split at this
    · omega
    split at this
    · omega
    · rename_i h4 h5
      rw [show i + 1 - 1 = i from rfl] at h5
      omega
/-- The piece of a curve that ends at a point. -/
def segN (X Y : List Int) (i : Nat) (x : Int) : Int := g Y (i - 1) * (g X i - g X (i - 1)) + (g Y i - g Y (i - 1)) * (x - g X (i - 1))
def seg (X Y : List Int) (i : Nat) (x : Int) : Int := (segN X Y i x).tdiv (g X i - g X (i - 1))
/-- The value of a curve, truncated. -/
def cvAt (X Y : List Int) (x : Int) : Int :=
  if x ≤ g X 0 then g Y 0
  else if ff (fun i => decide (1 ≤ i ∧ x ≤ g X i)) X.length < X.length then seg X Y (ff (fun i => decide (1 ≤ i ∧ x ≤ g X i)) X.length) x
  else g Y (X.length - 1)
theorem mono_le {X Y : List Int} (h : CvOk X Y) {i : Nat} : ∀ {j : Nat}, i ≤ j → j < X.length → g X i ≤ g X j ∧ g Y i ≤ g Y j
  | 0, hij, _ => by obtain rfl : i = 0 := by omega
                    exact ⟨Int.le_refl _, Int.le_refl _⟩
  | j + 1, hij, hj => by
    by_cases he : i = j + 1
    · subst he; exact ⟨Int.le_refl _, Int.le_refl _⟩
    · have h1 := mono_le h (i := i) (j := j) (by omega) (by omega)
      have h2 := h.inc j hj
      omega
theorem mono_lt {X Y : List Int} (h : CvOk X Y) {i j : Nat} (hij : i < j) (hj : j < X.length) : g X i < g X j := by
  have h1 := h.inc i (by omega)
  have h2 := (mono_le h (i := i + 1) (j := j) (by omega) hj).1
  omega
theorem seg_end {X Y : List Int} {i : Nat} (hx : g X (i - 1) < g X i) : seg X Y i (g X i) = g Y i := by
  have h0 : segN X Y i (g X i) = g Y i * (g X i - g X (i - 1)) := by
    unfold segN
    rw [← Int.add_mul]
    congr 1
    omega
  unfold seg
  rw [h0, Int.mul_tdiv_cancel _ (by omega)]
theorem seg_start {X Y : List Int} {i : Nat} (hx : g X (i - 1) < g X i) : seg X Y i (g X (i - 1)) = g Y (i - 1) := by
  have h0 : segN X Y i (g X (i - 1)) = g Y (i - 1) * (g X i - g X (i - 1)) := by
    unfold segN
    rw [Int.sub_self, Int.mul_zero, Int.add_zero]
  unfold seg
  rw [h0, Int.mul_tdiv_cancel _ (by omega)]
/-- Between two points. -/
theorem at_in {X Y : List Int} (h : CvOk X Y) {i : Nat} {x : Int} (hi : i < X.length) (hi1 : 1 ≤ i) (h1 : g X (i - 1) < x) (h2 : x ≤ g X i) : cvAt X Y x = seg X Y i x := by
  have h0 := (mono_le h (i := 0) (j := i - 1) (by omega) (by omega)).1
  have hf : ff (fun i => decide (1 ≤ i ∧ x ≤ g X i)) X.length = i := by
    refine ff_hit hi (fun j hj => ?_) (by simp; omega)
    have := (mono_le h (i := j) (j := i - 1) (by omega) (by omega)).1
    simp
    omega
  unfold cvAt
  rw [if_neg (by omega), hf, if_pos hi]
theorem at_first {X Y : List Int} {x : Int} (h : x ≤ g X 0) : cvAt X Y x = g Y 0 := by
  unfold cvAt
  rw [if_pos h]
theorem at_last {X Y : List Int} (h : CvOk X Y) {x : Int} (h1 : g X (X.length - 1) ≤ x) : cvAt X Y x = g Y (X.length - 1) := by
  have h2 := h.two
  by_cases he : x = g X (X.length - 1)
  · have h3 := h.inc (X.length - 2) (by omega)
    have h4 : X.length - 2 + 1 = X.length - 1 := by omega
    rw [h4] at h3
    have h5 : X.length - 1 - 1 = X.length - 2 := by omega
    rw [at_in h (i := X.length - 1) (by omega) (by omega) (by rw [h5]; omega) (by omega), he]
    exact seg_end (by rw [h5]; omega)
  · have hf : ff (fun i => decide (1 ≤ i ∧ x ≤ g X i)) X.length = X.length := by
      refine ff_none fun i hi => ?_
      have := (mono_le h (i := i) (j := X.length - 1) (by omega) (by omega)).1
      simp
      omega
    have h0 := (mono_le h (i := 0) (j := X.length - 1) (by omega) (by omega)).1
    unfold cvAt
    rw [if_neg (by omega), hf, if_neg (by omega)]
/-- Between two points, the first of them included. -/
theorem at_from {X Y : List Int} (h : CvOk X Y) {i : Nat} {x : Int} (hi : i < X.length) (hi1 : 1 ≤ i) (h1 : g X (i - 1) ≤ x) (h2 : x < g X i) : cvAt X Y x = seg X Y i x := by
  by_cases he : g X (i - 1) < x
  · exact at_in h hi hi1 he (by omega)
  · obtain rfl : x = g X (i - 1) := by omega
    rw [seg_start h2]
    by_cases hz : i - 1 = 0
    · rw [hz]; exact at_first (Int.le_refl _)
    · have h3 := h.inc (i - 2) (by omega)
      have h4 : i - 2 + 1 = i - 1 := by omega
      rw [h4] at h3
      have h5 : i - 1 - 1 = i - 2 := by omega
      rw [at_in h (i := i - 1) (by omega) (by omega) (by rw [h5]; omega) (Int.le_refl _)]
      exact seg_end (by rw [h5]; omega)
theorem segN_bd {X Y : List Int} (h : CvOk X Y) {i : Nat} {x : Int} (hi : i < X.length) (hi1 : 1 ≤ i) (h1 : g X (i - 1) ≤ x) (h2 : x ≤ g X i) :
    g Y (i - 1) * (g X i - g X (i - 1)) ≤ segN X Y i x ∧ segN X Y i x ≤ g Y i * (g X i - g X (i - 1)) := by
  have h3 := h.inc (i - 1) (by omega)
  rw [show i - 1 + 1 = i by omega] at h3
  have a1 : 0 ≤ (g Y i - g Y (i - 1)) * (x - g X (i - 1)) := Int.mul_nonneg (by omega) (by omega)
  have a2 : (g Y i - g Y (i - 1)) * (x - g X (i - 1)) ≤ (g Y i - g Y (i - 1)) * (g X i - g X (i - 1)) := Int.mul_le_mul_of_nonneg_left (by omega) (by omega)
  have a3 : g Y (i - 1) * (g X i - g X (i - 1)) + (g Y i - g Y (i - 1)) * (g X i - g X (i - 1)) = g Y i * (g X i - g X (i - 1)) := by
    rw [← Int.add_mul]
    congr 1
    omega
  unfold segN
  omega
theorem seg_bd {X Y : List Int} (h : CvOk X Y) {i : Nat} {x : Int} (hi : i < X.length) (hi1 : 1 ≤ i) (h1 : g X (i - 1) ≤ x) (h2 : x ≤ g X i) :
    g Y (i - 1) ≤ seg X Y i x ∧ seg X Y i x ≤ g Y i := by
  have h3 := h.inc (i - 1) (by omega)
  rw [show i - 1 + 1 = i by omega] at h3
  obtain ⟨b1, b2⟩ := segN_bd h hi hi1 h1 h2
  have c1 := Int.tdiv_le_tdiv (show 0 < g X i - g X (i - 1) by omega) b1
  have c2 := Int.tdiv_le_tdiv (show 0 < g X i - g X (i - 1) by omega) b2
  rw [Int.mul_tdiv_cancel _ (by omega)] at c1 c2
  exact ⟨c1, c2⟩
/-- Where a number lies among the points. -/
theorem find_in {X Y : List Int} (h : CvOk X Y) {x : Int} (h0 : g X 0 < x) (h1 : x < g X (X.length - 1)) : ∃ i, 1 ≤ i ∧ i < X.length ∧ g X (i - 1) < x ∧ x ≤ g X i := by
  have : ∀ n, n < X.length → g X n < x ∨ ∃ i, 1 ≤ i ∧ i ≤ n ∧ g X (i - 1) < x ∧ x ≤ g X i := by
    intro n
    induction n with
    | zero => exact fun _ => .inl h0
    | succ n ih =>
      intro hn
      rcases ih (by omega) with h2 | ⟨i, a, b, c⟩
      · by_cases h3 : g X (n + 1) < x
        · exact .inl h3
        · exact .inr ⟨n + 1, by omega, by omega, h2, by omega⟩
      · exact .inr ⟨i, a, by omega, c⟩
  have h2 := h.two
  rcases this (X.length - 1) (by omega) with h3 | ⟨i, a, b, c, d⟩
  · omega
  · exact ⟨i, a, by omega, c, d⟩
theorem at_bd {X Y : List Int} (h : CvOk X Y) (x : Int) : g Y 0 ≤ cvAt X Y x ∧ cvAt X Y x ≤ g Y (X.length - 1) := by
  have h2 := h.two
  have hm := (mono_le h (i := 0) (j := X.length - 1) (by omega) (by omega)).2
  by_cases c1 : x ≤ g X 0
  · rw [at_first c1]; omega
  by_cases c2 : g X (X.length - 1) ≤ x
  · rw [at_last h c2]; omega
  obtain ⟨i, i1, i2, i3, i4⟩ := find_in h (x := x) (by omega) (by omega)
  have b := seg_bd h i2 i1 (by omega) i4
  rw [at_in h i2 i1 i3 i4]
  have d1 := (mono_le h (i := 0) (j := i - 1) (by omega) (by omega)).2
  have d2 := (mono_le h (i := i) (j := X.length - 1) (by omega) (by omega)).2
  omega

/-- The table of sines. -/
def tbl : List Int := [0, 804, 1607, 2410, 3211, 4011, 4808, 5602, 6392, 7179, 7961, 8739, 9512, 10278, 11039, 11793,
  12539, 13278, 14010, 14732, 15446, 16151, 16846, 17530, 18204, 18868, 19519, 20159, 20787, 21403, 22005, 22594,
  23170, 23732, 24279, 24812, 25330, 25832, 26319, 26790, 27245, 27684, 28106, 28511, 28898, 29269, 29621, 29956,
  30273, 30572, 30852, 31114, 31357, 31581, 31785, 31971, 32138, 32285, 32413, 32521, 32610, 32679, 32728, 32758, 32768]
def T (k : Nat) : Int := tbl.getD k 0
theorem T_bd {k : Nat} (h : k < 65) : 0 ≤ T k ∧ T k ≤ 32768 := by
  have : ∀ k, k < 65 → 0 ≤ T k ∧ T k ≤ 32768 := by decide +kernel
  exact this k h
/-- Sine and cosine of the first quarter: of the part k and the rest f. -/
def sn (k : Nat) (f : Int) : Int := (256 * T k + (T (k + 1) - T k) * f).tdiv 256
def cs (k : Nat) (f : Int) : Int := (256 * T (64 - k) - (T (64 - k) - T (63 - k)) * f).tdiv 256
/-- Cosine and sine in the quarter q. -/
def cq (q : Nat) (S C : Int) : Int := match q with
  | 1 => -S
  | 2 => -C
  | 3 => S
  | _ => C
def sq (q : Nat) (S C : Int) : Int := match q with
  | 1 => C
  | 2 => -S
  | 3 => -C
  | _ => S
def cosA (a : Int) : Int := cq (a % 65536 / 16384).toNat (sn ((a % 16384) / 256).toNat (a % 256)) (cs ((a % 16384) / 256).toNat (a % 256))
def sinA (a : Int) : Int := sq (a % 65536 / 16384).toNat (sn ((a % 16384) / 256).toNat (a % 256)) (cs ((a % 16384) / 256).toNat (a % 256))
theorem tdiv_in {a b A B : Int} (hb : 0 < b) (h1 : A * b ≤ a) (h2 : a ≤ B * b) : A ≤ a.tdiv b ∧ a.tdiv b ≤ B := by
  have c1 := Int.tdiv_le_tdiv hb h1
  have c2 := Int.tdiv_le_tdiv hb h2
  rw [Int.mul_tdiv_cancel _ (by omega)] at c1 c2
  exact ⟨c1, c2⟩
theorem sn_bd {k : Nat} (hk : k < 64) {f : Int} (hf : 0 ≤ f ∧ f < 256) : -65536 ≤ sn k f ∧ sn k f ≤ 65536 := by
  have h1 := T_bd (k := k) (by omega)
  have h2 := T_bd (k := k + 1) (by omega)
  have h3 := mul_bd (a := T (k + 1) - T k) (b := f) (A := 32768) (B := 256) (by omega) (by omega)
  unfold sn
  exact tdiv_in (by omega) (by omega) (by omega)
theorem cs_bd {k : Nat} (hk : k < 64) {f : Int} (hf : 0 ≤ f ∧ f < 256) : -65536 ≤ cs k f ∧ cs k f ≤ 65536 := by
  have h1 := T_bd (k := 64 - k) (by omega)
  have h2 := T_bd (k := 63 - k) (by omega)
  have h3 := mul_bd (a := T (64 - k) - T (63 - k)) (b := f) (A := 32768) (B := 256) (by omega) (by omega)
  unfold cs
  exact tdiv_in (by omega) (by omega) (by omega)
theorem cosA_bd (a : Int) : -65536 ≤ cosA a ∧ cosA a ≤ 65536 := by
  have h1 := sn_bd (k := ((a % 16384) / 256).toNat) (f := a % 256) (by omega) (by omega)
  have h2 := cs_bd (k := ((a % 16384) / 256).toNat) (f := a % 256) (by omega) (by omega)
  unfold cosA cq
  split <;> omega
theorem sinA_bd (a : Int) : -65536 ≤ sinA a ∧ sinA a ≤ 65536 := by
  have h1 := sn_bd (k := ((a % 16384) / 256).toNat) (f := a % 256) (by omega) (by omega)
  have h2 := cs_bd (k := ((a % 16384) / 256).toNat) (f := a % 256) (by omega) (by omega)
  unfold sinA sq
  split <;> omega
/-- A turned vector. -/
def turnU (x y a : Int) : Int := (cosA a * x - sinA a * y).tdiv 32768
def turnV (x y a : Int) : Int := (sinA a * x + cosA a * y).tdiv 32768

end Go.Proofs.YtpfkiohknpeifaaGreat

namespace Go.Proofs.YtpfkiohknpeifaaGreat
open Go.RowKit

theorem hide {p : Prop} (h : p) : Hid p := h
theorem unhide {p : Prop} (h : Hid p) : p := h
/-- An error's value: nil for 0. -/
def errV (n : Int) : Value := if n = 0 then .nilIface else .iface 87 (.int .i64 n)
theorem errV_zero : errV 0 = .nilIface := rfl
theorem errV_ne {n : Int} (h : n ≠ 0) : errV n = .iface 87 (.int .i64 n) := if_neg h
def rows (X : List Int) : List (List Value) := X.map fun x => [Value.int .i64 x]
theorem g_of {X : List Int} {k : Nat} (h : k < X.length) : X[k]? = some (g X k) := by
  unfold g
  rw [List.getD_eq_getElem?_getD, List.getElem?_eq_getElem h]
  rfl
theorem Sl.at1 {w : World} {B : Nat} {A : Option Addr} {X : List Int} {k : Nat} (h : Sl w B 1 A (rows X)) (hk : k < X.length) : ∃ ad p, A = some ad ∧ ad.add k = p ∧ p.block < B ∧ w.cell? p = some (.int .i64 (g X k)) := by
  obtain ⟨ad, rfl, hb, hc⟩ := h.cell0 (k := k) (r := [.int .i64 (g X k)]) (u := .int .i64 (g X k)) (by unfold rows; rw [List.getElem?_map, g_of hk]; rfl) rfl
  rw [Nat.mul_one] at hc
  exact ⟨ad, _, rfl, rfl, by rw [block_of_add]; exact hb, hc⟩
/-- A number of a slice of which the pointer is known. -/
theorem Sl.at1' {w : World} {B : Nat} {ad : Addr} {X : List Int} {k : Nat} (h : Sl w B 1 (some ad) (rows X)) (hk : k < X.length) : ∃ p, ad.add k = p ∧ p.block < B ∧ w.cell? p = some (.int .i64 (g X k)) := by
  obtain ⟨ad', p, e, h1, h2, h3⟩ := h.at1 hk
  injection e with e
  subst e
  exact ⟨p, h1, h2, h3⟩
theorem Sl.ptr {w : World} {B : Nat} {A : Option Addr} {X : List Int} (h : Sl w B 1 A (rows X)) (hk : 0 < X.length) : ∃ ad, A = some ad := by
  obtain ⟨ad, p, e, _⟩ := h.at1 hk
  exact ⟨ad, e⟩
/-- n, moved into lo to hi. -/
def clipI (n lo hi : Int) : Int := if n < lo then lo else if hi < n then hi else n
theorem clipI_in (n lo hi : Int) (h : lo ≤ hi) : lo ≤ clipI n lo hi ∧ clipI n lo hi ≤ hi := by unfold clipI; split <;> (try split) <;> omega
def wiB (n lo hi : Int) : Bool := decide (lo ≤ n ∧ n ≤ hi)

end Go.Proofs.YtpfkiohknpeifaaGreat

namespace Go.Proofs.YtpfkiohknpeifaaGreat
open Go.RowKit

theorem num_nil (w : World) : Calls Tryz.prog 10 #[.nilIface] w fun e w' => e = .returned (.int .i64 0) ∧ w = w' := by
  go_enter Tryz.func10, Tryz.ntmps10
  go_wp2
  go_ret
  exact ⟨rfl, rfl⟩
theorem num_assert (m : Int) (w : World) : (Instr.typeAssert (.iface 87 (.int .i64 m)) 56 87 true).run Tryz.prog w = .ok (.tuple #[.int .i64 m, .bool true]) w := by kernel_rfl
theorem num_iface (m : Int) (w : World) : Calls Tryz.prog 10 #[.iface 87 (.int .i64 m)] w fun e w' => e = .returned (.int .i64 m) ∧ w = w' := by
  have hta := num_assert m
  go_enter Tryz.func10, Tryz.ntmps10
  go_wp2
  go_ret
  exact ⟨rfl, rfl⟩
theorem num_any (m : Int) (w : World) : Calls Tryz.prog 10 #[errV m] w fun e w' => e = .returned (.int .i64 m) ∧ w = w' := by
  by_cases h : m = 0
  · subst h; exact num_nil w
  · rw [errV_ne h]; exact num_iface m w
theorem clipM (n lo hi : Int) (h : lo ≤ hi) (w : World) : Calls Tryz.prog 95 #[.int .i64 n, .int .i64 lo, .int .i64 hi] w fun e w' => e = .returned (.int .i64 (clipI n lo hi)) ∧ w = w' := by
  go_enter Tryz.func95, Tryz.ntmps95
  by_cases h1 : n < lo
  · go_wp2
    all_goals go_ret
    all_goals exact ⟨congrArg (fun x => Ending.returned (.int .i64 x)) (by unfold clipI; rw [if_pos (by omega)]; try omega), rfl⟩
  · by_cases h2 : hi < n
    · go_wp2
      all_goals go_ret
      all_goals exact ⟨congrArg (fun x => Ending.returned (.int .i64 x)) (by unfold clipI; rw [if_neg (by omega), if_pos (by omega)]; try omega), rfl⟩
    · go_wp2
      all_goals go_ret
      all_goals exact ⟨congrArg (fun x => Ending.returned (.int .i64 x)) (by unfold clipI; rw [if_neg (by omega), if_neg (by omega)]; try omega), rfl⟩
theorem clipR (n lo hi : Int) (h : lo ≤ hi) (w : World) : Calls Tryz.prog 114 #[.int .i64 n, .int .i64 lo, .int .i64 hi] w fun e w' => e = .returned (.int .i64 (clipI n lo hi)) ∧ w = w' := by
  go_enter Tryz.func114, Tryz.ntmps114
  by_cases h1 : n < lo
  · go_wp2
    all_goals go_ret
    all_goals exact ⟨congrArg (fun x => Ending.returned (.int .i64 x)) (by unfold clipI; rw [if_pos (by omega)]; try omega), rfl⟩
  · by_cases h2 : hi < n
    · go_wp2
      all_goals go_ret
      all_goals exact ⟨congrArg (fun x => Ending.returned (.int .i64 x)) (by unfold clipI; rw [if_neg (by omega), if_pos (by omega)]; try omega), rfl⟩
    · go_wp2
      all_goals go_ret
      all_goals exact ⟨congrArg (fun x => Ending.returned (.int .i64 x)) (by unfold clipI; rw [if_neg (by omega), if_neg (by omega)]; try omega), rfl⟩
theorem wiM (n lo hi : Int) (w : World) : Calls Tryz.prog 77 #[.int .i64 n, .int .i64 lo, .int .i64 hi] w fun e w' => e = .returned (.bool (wiB n lo hi)) ∧ w = w' := by
  go_enter Tryz.func77, Tryz.ntmps77
  go_wp2
  all_goals go_ret
  all_goals exact ⟨congrArg (fun x => Ending.returned (.bool x)) (by first | (unfold wiB; symm; rw [decide_eq_true_eq]; omega) | (unfold wiB; symm; rw [decide_eq_false_iff_not]; omega) | (unfold wiB; rw [Bool.eq_iff_iff]; simp; omega)), rfl⟩
theorem wiR (n lo hi : Int) (w : World) : Calls Tryz.prog 70 #[.int .i64 n, .int .i64 lo, .int .i64 hi] w fun e w' => e = .returned (.bool (wiB n lo hi)) ∧ w = w' := by
  go_enter Tryz.func70, Tryz.ntmps70
  go_wp2
  all_goals go_ret
  all_goals exact ⟨congrArg (fun x => Ending.returned (.bool x)) (by first | (unfold wiB; symm; rw [decide_eq_true_eq]; omega) | (unfold wiB; symm; rw [decide_eq_false_iff_not]; omega) | (unfold wiB; rw [Bool.eq_iff_iff]; simp; omega)), rfl⟩
/-- A number as 64 bits. -/
def bv (c : Int) : BitVec 64 := BitVec.ofInt 64 c
theorem and_65535 (n : Int) : bits .and .i64 n 65535 = n % 65536 := by
  show IntKind.i64.wrap ((bv n &&& bv 65535).toNat : Int) = _
  rw [BitVec.toNat_and, show (bv 65535).toNat = 65535 by decide, nat_mask16]
  unfold bv
  rw [BitVec.toNat_ofInt, IntKind.wrap_i64]
  omega
theorem normM (n : Int) (w : World) : Calls Tryz.prog 98 #[.int .i64 n] w fun e w' => e = .returned (.int .i64 (n % 65536)) ∧ w = w' := by
  have h := and_65535 n
  go_enter Tryz.func98, Tryz.ntmps98
  go_wp2
  go_ret
  exact ⟨rfl, rfl⟩
theorem tmod_neg {n k : Int} (h : n < 0) : n.tmod k = -((-n) % k) := by
  have h1 : n = -(-n) := by omega
  rw [h1, Int.neg_tmod, Int.neg_neg, Int.tmod_eq_emod_of_nonneg (by omega)]
theorem tmod_pos {n k : Int} (h : 0 ≤ n) : n.tmod k = n % k := Int.tmod_eq_emod_of_nonneg h
theorem norm_eq (n : Int) : (n.tmod 65536 + 65536).tmod 65536 = n % 65536 := by
  rcases Int.lt_or_le n 0 with h | h
  · rw [tmod_neg h, tmod_pos (by omega)]
    omega
  · rw [tmod_pos h, tmod_pos (by omega)]
    omega
theorem tmod_bd (n : Int) : -65536 < n.tmod 65536 ∧ n.tmod 65536 < 65536 := by
  rcases Int.lt_or_le n 0 with h | h
  · rw [tmod_neg h]; omega
  · rw [tmod_pos h]; omega
theorem normR (n : Int) (w : World) : Calls Tryz.prog 113 #[.int .i64 n] w fun e w' => e = .returned (.int .i64 (n % 65536)) ∧ w = w' := by
  have h := norm_eq n
  have h0 := tmod_bd n
  have h1 : IntKind.i64.wrap (n.tmod 65536 + 65536) = n.tmod 65536 + 65536 := IntWalk.i64_in _ (by omega)
  go_enter Tryz.func113, Tryz.ntmps113
  go_wp2
  go_ret
  exact ⟨rfl, rfl⟩

end Go.Proofs.YtpfkiohknpeifaaGreat
