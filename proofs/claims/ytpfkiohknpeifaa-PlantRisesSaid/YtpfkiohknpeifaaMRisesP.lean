/- Plain facts: in a tick with bounded voltage and turn no current changes by more than Rise. -/
import Derived.Test.YtpfkiohknpeifaaMLip
import Derived.Test.YtpfkiohknpeifaaMTrig
namespace Go.Proofs.Ytpfkiohknpeifaa
open Go.RowKit

theorem stE_mono {X Y : List Int} (ok : CvOk X Y) {i : Nat} (hi : i < X.length) (hi1 : 1 ≤ i) {d d' : Int} (h : d ≤ d') : stE X Y d i ≤ stE X Y d' i := by
  have b3 := ok.inc (i - 1) (by omega)
  rw [show i - 1 + 1 = i by omega] at b3
  unfold stE
  refine Int.tdiv_le_tdiv (by omega) ?_
  have := Int.mul_le_mul_of_nonneg_right h (show 0 ≤ g Y i - g Y (i - 1) by omega)
  omega
theorem stp_ge (X Y : List Int) (d : Int) {m : Nat} (hm : 1 ≤ m) : ∀ {n : Nat}, m < n → stE X Y d m ≤ stp X Y d n
  | 0, h => by omega
  | n + 1, h => by
    have e : stp X Y d (n + 1) = max (stp X Y d n) (stE X Y d n) := by
      show (if n = 0 then 0 else max (stp X Y d n) (stE X Y d n)) = _
      rw [if_neg (by omega)]
    rw [e]
    by_cases he : m = n
    · subst he; omega
    · have := stp_ge X Y d hm (n := n) (by omega)
      omega
theorem lip_st {X Y : List Int} (ok : CvOk X Y) {x y D : Int} (h0 : g X 0 ≤ x) (hxy : x ≤ y) (h1 : y ≤ g X (X.length - 1)) (hD : y - x ≤ D) : cvAt X Y y - cvAt X Y x ≤ stp X Y D X.length := by
  obtain ⟨m, m1, m2, hm⟩ := steepest ok X.length ok.two (Nat.le_refl _)
  have b3 := ok.inc (m - 1) (by omega)
  rw [show m - 1 + 1 = m by omega] at b3
  have h2 := stE_mono ok m2 m1 hD
  have h3 := stp_ge X Y D m1 m2
  refine Int.le_trans ?_ (Int.le_trans h2 h3)
  have hl := lip ok h0 hxy h1 (p := g Y m - g Y (m - 1)) (q := g X m - g X (m - 1)) (by omega) hm
  unfold stE
  obtain ⟨p, hp⟩ : ∃ v, g Y m - g Y (m - 1) = v := ⟨_, rfl⟩
  obtain ⟨q, hq⟩ : ∃ v, g X m - g X (m - 1) = v := ⟨_, rfl⟩
  have hp0 : 0 ≤ p := by omega
  have hq0 : 0 < q := by omega
  rw [hp, hq] at hl ⊢
  have hpd : 0 ≤ (y - x) * p := Int.mul_nonneg (by omega) hp0
  rw [Int.tdiv_eq_ediv_of_nonneg (by omega), Int.le_ediv_iff_mul_le hq0]
  rcases hl with hl | hl
  · have e1 : (cvAt X Y y - cvAt X Y x - 1) * q = (cvAt X Y y - cvAt X Y x) * q - q := by grind
    have e2 : p * (y - x) = (y - x) * p := Int.mul_comm _ _
    omega
  · rw [hl, Int.sub_self, Int.zero_mul]
    omega
/-- Either way. -/
theorem lip_abs {X Y : List Int} (ok : CvOk X Y) {x y D : Int} (hx : g X 0 ≤ x ∧ x ≤ g X (X.length - 1)) (hy : g X 0 ≤ y ∧ y ≤ g X (X.length - 1)) (hD : -D ≤ y - x ∧ y - x ≤ D) :
    -stp X Y D X.length ≤ cvAt X Y y - cvAt X Y x ∧ cvAt X Y y - cvAt X Y x ≤ stp X Y D X.length := by
  rcases Int.le_total x y with h | h
  · have h1 := lip_st ok hx.1 h hy.2 hD.2
    have h2 := at_mono ok h
    omega
  · have h1 := lip_st ok hy.1 h hx.2 (show x - y ≤ D by omega)
    have h2 := at_mono ok h
    omega
theorem ff_true {p : Nat → Bool} : ∀ {n : Nat}, ff p n < n → p (ff p n) = true
  | 0, h => by omega
  | n + 1, h => by
    have hl := ff_le p n
    unfold ff at h ⊢
    split
    · exact ff_true (by assumption)
    · split
      · assumption
      · rename_i h1 h2
        rw [if_neg h1, if_neg h2] at h
        omega
theorem ff_min {p : Nat → Bool} {k : Nat} (hk : p k = true) : ∀ {n : Nat}, k < n → ff p n ≤ k
  | 0, h => by omega
  | n + 1, h => by
    by_cases e : k = n
    · subst e
      have hl := ff_le p k
      unfold ff
      split
      · omega
      · first | omega | (rw [if_pos hk]; omega)
    · have := ff_min hk (n := n) (by omega)
      unfold ff
      split
      · omega
      · omega
theorem ff_ge {p : Nat → Bool} {n j : Nat} (hj : j ≤ n) (h : ∀ i, i < j → p i = false) : j ≤ ff p n := by
  refine Nat.le_of_not_lt fun h1 => ?_
  have h2 := ff_true (p := p) (n := n) (by omega)
  rw [h _ h1] at h2
  cases h2
/-- Where the current is within bounds. -/
theorem in_reach {X Y : List Int} (ok : CvOk X Y) {x c : Int} (hx : g X 0 ≤ x ∧ x ≤ g X (X.length - 1)) (hc : -c ≤ cvAt X Y x ∧ cvAt X Y x ≤ c) : invI X Y (-c) ≤ x ∧ x ≤ spHi X Y c := by
  obtain ⟨k, hk⟩ : ∃ k : Nat, x = g X 0 + k := ⟨(x - g X 0).toNat, by omega⟩
  obtain ⟨N, hN⟩ : ∃ N : Nat, (g X (X.length - 1) - g X 0).toNat = N := ⟨_, rfl⟩
  have hkN : k ≤ N := by omega
  unfold invI spHi
  rw [hN]
  constructor
  · by_cases e : k < N
    · have := ff_min (p := geB X Y (-c)) (k := k) (by unfold geB; rw [decide_eq_true_eq, ← hk]; exact hc.1) e
      omega
    · have := ff_le (geB X Y (-c)) N
      omega
  · have := ff_ge (p := gtB X Y c) (n := N + 1) (j := k + 1) (by omega) fun i hi => by
      unfold gtB
      rw [decide_eq_false_iff_not]
      have := at_mono ok (x := g X 0 + i) (y := x) (by omega)
      omega
    omega

theorem trig_mono {a : Nat} : ∀ {b : Nat}, a ≤ b → b ≤ 16384 → cosA (b : Int) ≤ cosA (a : Int) ∧ sinA (a : Int) ≤ sinA (b : Int)
  | 0, h, _ => by obtain rfl : a = 0 := by omega
                  exact ⟨Int.le_refl _, Int.le_refl _⟩
  | b + 1, h, hb => by
    by_cases e : a = b + 1
    · subst e; exact ⟨Int.le_refl _, Int.le_refl _⟩
    · have h1 := trig_mono (a := a) (b := b) (by omega) (by omega)
      have h2 := trig_at b (by omega)
      omega
theorem trig_sym (a : Nat) (h : a ≤ 16384) : cosA (-(a : Int)) = cosA (a : Int) ∧ sinA (-(a : Int)) = -sinA (a : Int) := by
  by_cases e : a = 16384
  · subst e; decide +kernel
  · have := trig_at a (by omega)
    exact ⟨this.1, this.2.1⟩
/-- A turn by no more than b. -/
theorem trig_bd {t b : Int} (hb : 0 ≤ b ∧ b ≤ 16384) (ht : -b ≤ t ∧ t ≤ b) : cosA (-t) ≤ 32768 ∧ (32768 - cosA (-t)) + (max (sinA (-t)) (-sinA (-t))) ≤ 32768 - cosA b + sinA b := by
  have c0 : cosA 0 = 32768 := by decide +kernel
  have s0 : sinA 0 = 0 := by decide +kernel
  obtain ⟨a, ha⟩ : ∃ a : Nat, t = (a : Int) ∨ t = -(a : Int) := ⟨t.natAbs, by omega⟩
  obtain ⟨bb, hbb⟩ : ∃ bb : Nat, b = (bb : Int) := ⟨b.toNat, by omega⟩
  subst hbb
  have hm := trig_mono (a := a) (b := bb) (by omega) (by omega)
  have hm0 := trig_mono (a := 0) (b := a) (by omega) (by omega)
  have hs := trig_sym a (by omega)
  rw [show ((0 : Nat) : Int) = 0 from rfl, c0, s0] at hm0
  rcases ha with rfl | rfl
  · rw [hs.1, hs.2]; omega
  · rw [Int.neg_neg]; omega
theorem trunc_near {x Z M : Int} (h : -M ≤ Z ∧ Z ≤ M) (hM : 0 ≤ M) : -((M + 32767).tdiv 32768) ≤ (32768 * x + Z).tdiv 32768 - x ∧ (32768 * x + Z).tdiv 32768 - x ≤ (M + 32767).tdiv 32768 := by
  have a1 : (32768 * x + Z).tdiv 32768 * 32768 + (32768 * x + Z).tmod 32768 = 32768 * x + Z := Int.tdiv_mul_add_tmod _ _
  have l1 := Int.tmod_lt_of_pos (32768 * x + Z) (b := 32768) (by omega)
  have g1 := Int.tmod_lt_of_pos (-(32768 * x + Z)) (b := 32768) (by omega)
  rw [Int.neg_tmod] at g1
  rw [Int.tdiv_eq_ediv_of_nonneg (show 0 ≤ M + 32767 by omega)]
  generalize (32768 * x + Z).tdiv 32768 = q at *
  generalize (32768 * x + Z).tmod 32768 = r at *
  omega
theorem mul_abs {a x F : Int} (ha : 0 ≤ a) (hx : -F ≤ x ∧ x ≤ F) : -(a * F) ≤ a * x ∧ a * x ≤ a * F := by
  have h1 := Int.mul_le_mul_of_nonneg_left hx.1 ha
  have h2 := Int.mul_le_mul_of_nonneg_left hx.2 ha
  rw [Int.mul_neg] at h1
  exact ⟨h1, h2⟩
/-- What a turn by no more than b changes. -/
theorem turn_chg {x y t b F : Int} (hb : 0 ≤ b ∧ b ≤ 16384) (ht : -b ≤ t ∧ t ≤ b) (hx : -F ≤ x ∧ x ≤ F) (hy : -F ≤ y ∧ y ≤ F) :
    (-((F * (32768 - cosA b + sinA b) + 32767).tdiv 32768) ≤ turnU x y (-t) - x ∧ turnU x y (-t) - x ≤ (F * (32768 - cosA b + sinA b) + 32767).tdiv 32768) ∧
    (-((F * (32768 - cosA b + sinA b) + 32767).tdiv 32768) ≤ turnV x y (-t) - y ∧ turnV x y (-t) - y ≤ (F * (32768 - cosA b + sinA b) + 32767).tdiv 32768) := by
  obtain ⟨h1, h2⟩ := trig_bd hb ht
  unfold turnU turnV
  generalize cosA (-t) = c at *
  generalize sinA (-t) = s at *
  generalize 32768 - cosA b + sinA b = K at *
  have hF : 0 ≤ F := by omega
  obtain ⟨A, hA⟩ : ∃ A, max s (-s) = A := ⟨_, rfl⟩
  have hA0 : 0 ≤ A := by omega
  rw [hA] at h2
  have hK := Int.mul_le_mul_of_nonneg_right h2 hF
  have e0 : (32768 - c + A) * F = (32768 - c) * F + A * F := Int.add_mul _ _ _
  have e1 : F * K = K * F := Int.mul_comm _ _
  have m1 := mul_abs (a := 32768 - c) (by omega) hx
  have m2 := mul_abs (a := 32768 - c) (by omega) hy
  have m3 := mul_abs (a := A) hA0 hx
  have m4 := mul_abs (a := A) hA0 hy
  have p1 : -(A * F) ≤ s * x ∧ s * x ≤ A * F := by
    rcases Int.le_total 0 s with h | h
    · obtain rfl : A = s := by omega
      exact m3
    · obtain rfl : A = -s := by omega
      have : -s * x = -(s * x) := Int.neg_mul _ _
      omega
  have p2 : -(A * F) ≤ s * y ∧ s * y ≤ A * F := by
    rcases Int.le_total 0 s with h | h
    · obtain rfl : A = s := by omega
      exact m4
    · obtain rfl : A = -s := by omega
      have : -s * y = -(s * y) := Int.neg_mul _ _
      omega
  have q1 : c * x - s * y = 32768 * x + (-((32768 - c) * x) - s * y) := by grind
  have q2 : s * x + c * y = 32768 * y + (-((32768 - c) * y) + s * x) := by grind
  have hM : 0 ≤ F * K := by
    have := Int.mul_nonneg (show 0 ≤ 32768 - c by omega) hF
    have := Int.mul_nonneg hA0 hF
    omega
  rw [q1, q2]
  exact ⟨trunc_near (by omega) hM, trunc_near (by omega) hM⟩
theorem inX_near {X : List Int} {z D : Int} (hD : g X 0 ≤ D ∧ D ≤ g X (X.length - 1)) {e : Int} (h : -e ≤ z - D ∧ z - D ≤ e) : -e ≤ inX X z - D ∧ inX X z - D ≤ e := by
  unfold inX clipI
  split
  · omega
  · split <;> omega
theorem res_bd {r i c : Int} (hr : 0 ≤ r) (hi : -c ≤ i ∧ i ≤ c) : -((r * c).tdiv 1000) ≤ (r * i).tdiv 1000 ∧ (r * i).tdiv 1000 ≤ (r * c).tdiv 1000 := by
  have m := mul_abs hr hi
  have h1 := Int.tdiv_le_tdiv (show (0 : Int) < 1000 by omega) m.1
  have h2 := Int.tdiv_le_tdiv (show (0 : Int) < 1000 by omega) m.2
  rw [Int.neg_tdiv] at h1
  exact ⟨h1, h2⟩
/-- One axis: how much a current changes. -/
theorem axis {X Y : List Int} (ok : McOk X Y) {D z e dd : Int} (hD : g X 0 ≤ D ∧ D ≤ g X (X.length - 1)) (h : -e ≤ z - D ∧ z - D ≤ e) (he : e + 1 ≤ dd) :
    -stI X Y dd ≤ cvAt X Y (inX X z) - cvAt X Y D ∧ cvAt X Y (inX X z) - cvAt X Y D ≤ stI X Y dd := by
  have hn := inX_near hD h
  have hz := inX_in ok z
  have e1 := mc_ends ok
  unfold stI
  refine lip_abs ok.ok hD hz ?_
  unfold clD
  omega
/-- No current changes by more than Rise. -/
theorem rises {C : Cf} (ok : CfOk C) {fd fq vd vq tn bv bt bc : Int} (hvd : -bv ≤ vd ∧ vd ≤ bv) (hvq : -bv ≤ vq ∧ vq ≤ bv) (hbv : 0 ≤ bv ∧ bv ≤ 1048576) (hbt : 0 ≤ bt ∧ bt ≤ 16384) (htn : -bt ≤ tn ∧ tn ≤ bt)
    (hid : -bc ≤ curD C fd ∧ curD C fd ≤ bc) (hiq : -bc ≤ curQ C fq ∧ curQ C fq ≤ bc) :
    (-riI C bv bt bc ≤ curD C (C.m + inX C.dx (stD C fd fq vd tn - C.m)) - curD C fd ∧ curD C (C.m + inX C.dx (stD C fd fq vd tn - C.m)) - curD C fd ≤ riI C bv bt bc) ∧
    (-riI C bv bt bc ≤ curQ C (inX C.qx (stQ C fd fq vq tn)) - curQ C fq ∧ curQ C (inX C.qx (stQ C fd fq vq tn)) - curQ C fq ≤ riI C bv bt bc) := by
  have hD := devD_in ok fd
  have hQ := devQ_in ok fq
  have rD := in_reach ok.d.ok hD hid
  have rQ := in_reach ok.q.ok hQ hiq
  have hX : riX C bc = max (max (max (max (C.m + invI C.dx C.dy (-bc)) (-(C.m + invI C.dx C.dy (-bc)))) (max (C.m + spHi C.dx C.dy bc) (-(C.m + spHi C.dx C.dy bc)))) (max (invI C.qx C.qy (-bc)) (-invI C.qx C.qy (-bc)))) (max (spHi C.qx C.qy bc) (-spHi C.qx C.qy bc)) := rfl
  generalize invI C.dx C.dy (-bc) = a1 at *
  generalize spHi C.dx C.dy bc = a2 at *
  generalize invI C.qx C.qy (-bc) = a3 at *
  generalize spHi C.qx C.qy bc = a4 at *
  have x1 : C.m + a2 ≤ riX C bc := by rw [hX]; omega
  have x2 : -(C.m + a1) ≤ riX C bc := by rw [hX]; omega
  have x3 : a4 ≤ riX C bc := by rw [hX]; omega
  have x4 : -a3 ≤ riX C bc := by rw [hX]; omega
  clear hX
  have tc := turn_chg (x := C.m + devD C fd) (y := devQ C fq) (t := tn) (F := riX C bc) hbt htn (by omega) (by omega)
  have rdb := res_bd ok.r.1 hid
  have rqb := res_bd ok.r.1 hiq
  have hF : riF C bt bc = (riX C bc * (32768 - cosA bt + sinA bt) + 32767).tdiv 32768 := rfl
  rw [← hF] at tc
  have cd : clipI vd (-1048576) 1048576 = vd := by unfold clipI; rw [if_neg (by omega), if_neg (by omega)]
  have cq : clipI vq (-1048576) 1048576 = vq := by unfold clipI; rw [if_neg (by omega), if_neg (by omega)]
  have e1 : stD C fd fq vd tn = turnU (C.m + devD C fd) (devQ C fq) (-tn) + (vd - (C.r * curD C fd).tdiv 1000) := by unfold stD; rw [cd]
  have e2 : stQ C fd fq vq tn = turnV (C.m + devD C fd) (devQ C fq) (-tn) + (vq - (C.r * curQ C fq).tdiv 1000) := by unfold stQ; rw [cq]
  have hdd : riD C bv bt bc = riF C bt bc + 1 + bv + (C.r * bc).tdiv 1000 := rfl
  have aD := axis ok.d (D := devD C fd) (z := stD C fd fq vd tn - C.m) (e := riF C bt bc + bv + (C.r * bc).tdiv 1000) (dd := riD C bv bt bc) hD (by omega) (by omega)
  have aQ := axis ok.q (D := devQ C fq) (z := stQ C fd fq vq tn) (e := riF C bt bc + bv + (C.r * bc).tdiv 1000) (dd := riD C bv bt bc) hQ (by omega) (by omega)
  have hI : riI C bv bt bc = max (stI C.dx C.dy (riD C bv bt bc)) (stI C.qx C.qy (riD C bv bt bc)) := rfl
  have iD := inX_in ok.d (stD C fd fq vd tn - C.m)
  have iQ := inX_in ok.q (stQ C fd fq vq tn)
  have n1 : curD C (C.m + inX C.dx (stD C fd fq vd tn - C.m)) = cvAt C.dx C.dy (inX C.dx (stD C fd fq vd tn - C.m)) := by
    unfold curD
    rw [devD_far ok, show C.m + inX C.dx (stD C fd fq vd tn - C.m) - C.m = inX C.dx (stD C fd fq vd tn - C.m) by omega, inX_same iD.1 iD.2]
  have n2 : curQ C (inX C.qx (stQ C fd fq vq tn)) = cvAt C.qx C.qy (inX C.qx (stQ C fd fq vq tn)) := by
    unfold curQ
    rw [devQ_far ok, inX_same iQ.1 iQ.2]
  have o1 : curD C fd = cvAt C.dx C.dy (devD C fd) := rfl
  have o2 : curQ C fq = cvAt C.qx C.qy (devQ C fq) := rfl
  rw [n1, n2, o1, o2, hI]
  omega

end Go.Proofs.Ytpfkiohknpeifaa
