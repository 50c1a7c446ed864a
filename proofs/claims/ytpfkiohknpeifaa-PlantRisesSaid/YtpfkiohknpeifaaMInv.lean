/- Searches over a curve: the closures, sort.Search, Inverse. -/
import Derived.Test.YtpfkiohknpeifaaMcB
import Derived.Test.YtpfkiohknpeifaaMFadeP
import Derived.Deep.RegionHeld3
namespace Go.Proofs.Ytpfkiohknpeifaa
open Go.RowKit
/-- From which number of steps on a curve is at least y. -/
def geB (X Y : List Int) (y : Int) (k : Nat) : Bool := decide (y ≤ cvAt X Y (g X 0 + k))
/-- From which number of steps on a curve is above y. -/
def gtB (X Y : List Int) (y : Int) (k : Nat) : Bool := decide (y < cvAt X Y (g X 0 + k))
theorem geB_mono {X Y : List Int} (ok : CvOk X Y) (y : Int) {i j : Nat} (h : i ≤ j) (hi : geB X Y y i = true) : geB X Y y j = true := by
  unfold geB at *
  rw [decide_eq_true_eq] at *
  have := at_mono ok (x := g X 0 + i) (y := g X 0 + j) (by omega)
  omega
theorem gtB_mono {X Y : List Int} (ok : CvOk X Y) (y : Int) {i j : Nat} (h : i ≤ j) (hi : gtB X Y y i = true) : gtB X Y y j = true := by
  unfold gtB at *
  rw [decide_eq_true_eq] at *
  have := at_mono ok (x := g X 0 + i) (y := g X 0 + j) (by omega)
  omega
/-- Where a search ends. -/
theorem ff_end {p : Nat → Bool} {N a : Nat} (ha : a ≤ N) (h1 : ∀ i, i < a → p i = false) (h2 : a < N → p a = true) : ff p N = a := by
  by_cases h : a < N
  · exact ff_hit h h1 (h2 h)
  · obtain rfl : a = N := by omega
    exact ff_none h1
/-- The curve and what is searched, in memory. -/
structure QS (w0 w : World) (X Y : List Int) (ax ay : Addr) (n cX cY b1 b2 : Nat) (y : Int) : Prop where
  p : Blk w b1 24 #[.slice (some ax) n cX, .slice (some ay) n cY]
  q : Blk w b2 3 #[.int .i64 y]
  sx : Sl w w0.heap.size 1 (some ax) (rows X)
  sy : Sl w w0.heap.size 1 (some ay) (rows Y)
  b : Below w0.heap.size w0 w
section
variable {w0 w w' : World} {X Y : List Int} {ax ay : Addr} {n cX cY b1 b2 : Nat} {y : Int}
theorem QS.drew (h : QS w0 w X Y ax ay n cX cY b1 b2 y) : QS w0 w.drew X Y ax ay n cX cY b1 b2 y := ⟨h.p.drew, h.q.drew, h.sx.keep fun _ _ => rfl, h.sy.keep fun _ _ => rfl, h.b.drew⟩
theorem QS.one {Q : Prop} (h : QS w0 w X Y ax ay n cX cY b1 b2 y ∧ Q) : QS w0 w X Y ax ay n cX cY b1 b2 y := h.1
theorem QS.below (hb : Below w.heap.size w w') (h : QS w0 w X Y ax ay n cX cY b1 b2 y) : QS w0 w' X Y ax ay n cX cY b1 b2 y := ⟨h.p.below hb h.p.lt, h.q.below hb h.q.lt, h.sx.below (hb.mono h.b.size), h.sy.below (hb.mono h.b.size), h.b.trans (hb.mono h.b.size)⟩
theorem QS.x (h : QS w0 w X Y ax ay n cX cY b1 b2 y) : Sl w w.heap.size 1 (some ax) (rows X) := h.sx.more h.b.size
theorem QS.yy (h : QS w0 w X Y ax ay n cX cY b1 b2 y) : Sl w w.heap.size 1 (some ay) (rows Y) := h.sy.more h.b.size
end
set_option maxRecDepth 100000 in
set_option maxHeartbeats 1600000 in
theorem clInv (X Y : List Int) (ax ay : Addr) (n cX cY b1 b2 : Nat) (y : Int) (k : Nat) (w : World) (h : QS w w X Y ax ay n cX cY b1 b2 y) (hn : n = X.length) (ok : CvOk X Y) (hk : k ≤ 2147483648) :
    Calls Try.prog 104 #[.int .i64 k, .pointer (some ⟨b1, 0, none⟩), .pointer (some ⟨b2, 0, none⟩)] w fun e w' => e = .returned (.bool (geB X Y y k)) ∧ Below w.heap.size w w' := by
  have bd := ok.bd 0 (by have := ok.two; omega)
  obtain ⟨pf, pfa, pfb, f0⟩ := h.x.at1' (k := 0) (by have := ok.two; omega)
  have hat := fun (W : World) (h1 : Sl W W.heap.size 1 (some ax) (rows X)) (h2 : Sl W W.heap.size 1 (some ay) (rows Y)) => atM X Y ax ay n cX cY (g X 0 + k) (by omega) W h1 h2 hn ok
  have n2 : 2 ≤ n := by have := ok.two; omega
  have hi1 : (0 : Int) < (n : Int) := by omega
  have hi0 : 0 < n := by omega
  have hi2 : (0 : Int) ≤ 0 := by omega
  have hv : geB X Y y k = decide (y ≤ cvAt X Y (g X 0 + k)) := rfl
  rw [hv]
  obtain ⟨V, hV⟩ : ∃ x, cvAt X Y (g X 0 + k) = x := ⟨_, rfl⟩
  simp only [hV] at hat ⊢
  obtain ⟨x0, hx0⟩ : ∃ x, g X 0 = x := ⟨_, rfl⟩
  simp only [hx0] at hat bd f0
  have e1 : IntKind.i64.wrap (x0 + k) = x0 + k := IntWalk.i64_in _ (by omega)
  have HAT := hide hat
  have c0 := h.p.c2.1
  have c1 := h.p.c2.2
  have d0 := h.q.c1
  have l1 := h.p.lt
  have l2 := h.q.lt
  clear hat hV hx0 bd hv ok hn
  go_enter Try.func104, Try.ntmps104
  go_wp2
  go_region_held3 (fun w' => QS w w' X Y ax ay n cX cY b1 b2 y ∧ w'.cell? ⟨b1, 0, none⟩ = some (.slice (some ax) n cX) ∧ w'.cell? ⟨b1, 1, none⟩ = some (.slice (some ay) n cY) ∧ w'.cell? ⟨b2, 0, none⟩ = some (.int .i64 y) ∧ w'.cell? pf = some (.int .i64 x0))
    (first | (refine ⟨?_, ?_, ?_, ?_, ?_⟩; (first | exact h.drew | exact h | exact hasA); (first | exact c0 | exact hasA.p.c2.1); (first | exact c1 | exact hasA.p.c2.2); (first | exact d0 | exact hasA.q.c1); (first | exact f0 | exact fA)))
    (first | (go_at_call 76; (with_reducible refine ((unhide HAT) _ (QS.x (QS.one ‹QS w _ _ _ _ _ _ _ _ _ _ _ ∧ _›)) (QS.yy (QS.one ‹QS w _ _ _ _ _ _ _ _ _ _ _ ∧ _›))).mono ?_); rintro e wA ⟨rfl, hbA⟩; have hasA := QS.below hbA (QS.one ‹QS w _ _ _ _ _ _ _ _ _ _ _ ∧ _›); have fA := (hbA.cell (p := pf) (by exact pfb)).trans f0))
  all_goals
    go_wp2
    go_ret
    exact ⟨rfl, hasA.b⟩
set_option maxRecDepth 100000 in
set_option maxHeartbeats 1600000 in
theorem clReach (X Y : List Int) (ax ay : Addr) (n cX cY b1 b2 : Nat) (y : Int) (b3 : Nat) (k : Nat) (w : World) (h : QS w w X Y ax ay n cX cY b1 b2 y) (h3 : Blk w b3 3 #[.int .i64 (g X 0)]) (hn : n = X.length) (ok : CvOk X Y) (hc : cvCode X Y = 0) (hk : k ≤ 2147483648) :
    Calls Try.prog 85 #[.int .i64 k, .pointer (some ⟨b1, 0, none⟩), .pointer (some ⟨b3, 0, none⟩), .pointer (some ⟨b2, 0, none⟩)] w fun e w' => e = .returned (.bool (gtB X Y y k)) ∧ Below w.heap.size w w' := by
  have bd := ok.bd 0 (by have := ok.two; omega)
  have hat := fun (W : World) (h1 : Sl W W.heap.size 1 (some ax) (rows X)) (h2 : Sl W W.heap.size 1 (some ay) (rows Y)) => AtM X Y ax ay n cX cY (g X 0 + k) (by omega) W h1 h2 hn ok hc
  have hv : gtB X Y y k = decide (y < cvAt X Y (g X 0 + k)) := rfl
  rw [hv]
  obtain ⟨V, hV⟩ : ∃ x, cvAt X Y (g X 0 + k) = x := ⟨_, rfl⟩
  simp only [hV] at hat ⊢
  obtain ⟨x0, hx0⟩ : ∃ x, g X 0 = x := ⟨_, rfl⟩
  simp only [hx0] at hat bd h3
  have e1 : IntKind.i64.wrap (x0 + k) = x0 + k := IntWalk.i64_in _ (by omega)
  have HAT := hide hat
  have c0 := h.p.c2.1
  have c1 := h.p.c2.2
  have d0 := h.q.c1
  have f0 := h3.c1
  have l1 := h.p.lt
  have l2 := h.q.lt
  have l3 := h3.lt
  clear hat hV hx0 bd hv ok hn hc
  go_enter Try.func85, Try.ntmps85
  go_wp2_with fail
  with_reducible refine ((unhide HAT) _ h.x h.yy).mono ?_
  rintro e wA ⟨rfl, hbA⟩
  have hA := QS.below hbA h
  have lA := hA.q.lt
  have d1 := hA.q.c1
  clear c0 c1 d0 f0
  go_wp2
  go_ret
  exact ⟨rfl, hA.b⟩
set_option maxRecDepth 100000 in
set_option maxHeartbeats 1600000 in
theorem searchInv (X Y : List Int) (ax ay : Addr) (n cX cY b1 b2 : Nat) (y : Int) (N : Nat) (w : World) (h : QS w w X Y ax ay n cX cY b1 b2 y) (hn : n = X.length) (ok : CvOk X Y) (hN : N ≤ 2147483649) :
    Calls Try.prog 84 #[.int .i64 N, .func (.func 104) #[] #[.pointer (some ⟨b1, 0, none⟩), .pointer (some ⟨b2, 0, none⟩)]] w fun e w' => e = .returned (.int .i64 (ff (geB X Y y) N)) ∧ Below w.heap.size w w' := by
  have HM := hide (fun (i j : Nat) (h : i ≤ j) (hi : geB X Y y i = true) => geB_mono ok y h hi)
  have HCL := hide (fun (k : Nat) (W : World) (hW : QS W W X Y ax ay n cX cY b1 b2 y) (hk : k ≤ 2147483648) => clInv X Y ax ay n cX cY b1 b2 y k W hW hn ok hk)
  clear ok hn
  go_enter Try.func84, Try.ntmps84
  go_wp2
  go_loopw [5, 6] (fun i j wr => ∃ a b : Nat, a ≤ b ∧ b ≤ N ∧ i = .int .i64 a ∧ j = .int .i64 b ∧ Hid (∀ i, i < a → geB X Y y i = false) ∧ Hid (b < N → geB X Y y b = true) ∧ QS w wr X Y ax ay n cX cY b1 b2 y) (fun i j _ => (intOf j).toNat - (intOf i).toNat)
  case atStart => exact ⟨0, N, Nat.zero_le _, Nat.le_refl _, rfl, rfl, (fun i h => by omega), (fun h => by omega), h⟩
  case round =>
  obtain ⟨a, b, hab, hbn, rfl, rfl, hlo, hhi, hq⟩ := hrel
  by_cases hlt : a < b
  · obtain ⟨m, hm2⟩ : ∃ m : Nat, (a + b) / 2 = m := ⟨_, rfl⟩
    have hma : a ≤ m := by omega
    have hmb : m < b := by omega
    have em : ((a : Int) + b) / 2 = (m : Int) := by omega
    have HM2 := Lib.hid hm2
    clear hm2
    have hqr : QS wr wr X Y ax ay n cX cY b1 b2 y := ⟨hq.p, hq.q, hq.x, hq.yy, Below.refl _ _⟩
    cases hp : geB X Y y m with
    | false =>
      have HP := hide hp
      have HC2 := (unhide HCL) m
      rw [hp] at HC2
      have HC3 := hide HC2
      clear hp HC2
      go_wp2_with fail
      with_reducible refine ((unhide HC3) _ hqr (by omega)).mono ?_
      rintro e wA ⟨rfl, hbA⟩
      go_wp2
      go_roundw
      case rel => exact ⟨m + 1, b, by omega, hbn, by go_num, rfl, (fun i h => by
        cases hi : geB X Y y i with
        | false => rfl
        | true => rw [(unhide HM) i m (by omega) hi] at HP; exact absurd HP.out (by decide)), hhi, QS.below hbA hq⟩
      case measure => simp [intOf]; omega
    | true =>
      have HP := hide hp
      have HC2 := (unhide HCL) m
      rw [hp] at HC2
      have HC3 := hide HC2
      clear hp HC2
      go_wp2_with fail
      with_reducible refine ((unhide HC3) _ hqr (by omega)).mono ?_
      rintro e wA ⟨rfl, hbA⟩
      go_wp2
      go_roundw
      case rel => exact ⟨a, m, by omega, by omega, rfl, rfl, hlo, (fun _ => HP), QS.below hbA hq⟩
      case measure => simp [intOf]; omega
  · obtain rfl : a = b := by omega
    have he := Lib.hid (ff_end hbn hlo.out hhi.out)
    go_wp2
    go_ret
    exact ⟨by rw [he.out]; rfl, hq.b⟩
set_option maxRecDepth 100000 in
set_option maxHeartbeats 1600000 in
theorem searchReach (X Y : List Int) (ax ay : Addr) (n cX cY b1 b2 : Nat) (y : Int) (b3 : Nat) (N : Nat) (w : World) (h : QS w w X Y ax ay n cX cY b1 b2 y) (h3 : Blk w b3 3 #[.int .i64 (g X 0)]) (hc : cvCode X Y = 0) (hn : n = X.length) (ok : CvOk X Y) (hN : N ≤ 2147483649) :
    Calls Try.prog 84 #[.int .i64 N, .func (.func 85) #[] #[.pointer (some ⟨b1, 0, none⟩), .pointer (some ⟨b3, 0, none⟩), .pointer (some ⟨b2, 0, none⟩)]] w fun e w' => e = .returned (.int .i64 (ff (gtB X Y y) N)) ∧ Below w.heap.size w w' := by
  have HM := hide (fun (i j : Nat) (h : i ≤ j) (hi : gtB X Y y i = true) => gtB_mono ok y h hi)
  have HCL := hide (fun (k : Nat) (W : World) (hW : QS W W X Y ax ay n cX cY b1 b2 y) (h3 : Blk W b3 3 #[.int .i64 (g X 0)]) (hk : k ≤ 2147483648) => clReach X Y ax ay n cX cY b1 b2 y b3 k W hW h3 hn ok hc hk)
  clear ok hn hc
  go_enter Try.func84, Try.ntmps84
  go_wp2
  go_loopw [5, 6] (fun i j wr => ∃ a b : Nat, a ≤ b ∧ b ≤ N ∧ i = .int .i64 a ∧ j = .int .i64 b ∧ Hid (∀ i, i < a → gtB X Y y i = false) ∧ Hid (b < N → gtB X Y y b = true) ∧ QS w wr X Y ax ay n cX cY b1 b2 y ∧ Blk wr b3 3 #[.int .i64 (g X 0)]) (fun i j _ => (intOf j).toNat - (intOf i).toNat)
  case atStart => exact ⟨0, N, Nat.zero_le _, Nat.le_refl _, rfl, rfl, (fun i h => by omega), (fun h => by omega), h, h3⟩
  case round =>
  obtain ⟨a, b, hab, hbn, rfl, rfl, hlo, hhi, hq, hq3⟩ := hrel
  by_cases hlt : a < b
  · obtain ⟨m, hm2⟩ : ∃ m : Nat, (a + b) / 2 = m := ⟨_, rfl⟩
    have hma : a ≤ m := by omega
    have hmb : m < b := by omega
    have em : ((a : Int) + b) / 2 = (m : Int) := by omega
    have HM2 := Lib.hid hm2
    clear hm2
    have hqr : QS wr wr X Y ax ay n cX cY b1 b2 y := ⟨hq.p, hq.q, hq.x, hq.yy, Below.refl _ _⟩
    cases hp : gtB X Y y m with
    | false =>
      have HP := hide hp
      have HC2 := (unhide HCL) m
      rw [hp] at HC2
      have HC3 := hide HC2
      clear hp HC2
      go_wp2_with fail
      with_reducible refine ((unhide HC3) _ hqr hq3 (by omega)).mono ?_
      rintro e wA ⟨rfl, hbA⟩
      go_wp2
      go_roundw
      case rel => exact ⟨m + 1, b, by omega, hbn, by go_num, rfl, (fun i h => by
        cases hi : gtB X Y y i with
        | false => rfl
        | true => rw [(unhide HM) i m (by omega) hi] at HP; exact absurd HP.out (by decide)), hhi, QS.below hbA hq, hq3.below hbA hq3.lt⟩
      case measure => simp [intOf]; omega
    | true =>
      have HP := hide hp
      have HC2 := (unhide HCL) m
      rw [hp] at HC2
      have HC3 := hide HC2
      clear hp HC2
      go_wp2_with fail
      with_reducible refine ((unhide HC3) _ hqr hq3 (by omega)).mono ?_
      rintro e wA ⟨rfl, hbA⟩
      go_wp2
      go_roundw
      case rel => exact ⟨a, m, by omega, by omega, rfl, rfl, hlo, (fun _ => HP), QS.below hbA hq, hq3.below hbA hq3.lt⟩
      case measure => simp [intOf]; omega
  · obtain rfl : a = b := by omega
    have he := Lib.hid (ff_end hbn hlo.out hhi.out)
    go_wp2
    go_ret
    exact ⟨by rw [he.out]; rfl, hq.b⟩
theorem ff_le (p : Nat → Bool) : ∀ n, ff p n ≤ n
  | 0 => Nat.le_refl _
  | n + 1 => by
    have := ff_le p n
    unfold ff
    split
    · omega
    · split <;> omega
theorem QS.self {w0 w : World} {X Y : List Int} {ax ay : Addr} {n cX cY b1 b2 : Nat} {y : Int} (h : QS w0 w X Y ax ay n cX cY b1 b2 y) : QS w w X Y ax ay n cX cY b1 b2 y := ⟨h.p, h.q, h.x, h.yy, Below.refl _ _⟩
/-- The least x at which a curve is at least y; the last x where there is none before it. -/
def invI (X Y : List Int) (y : Int) : Int := g X 0 + ff (geB X Y y) (g X (X.length - 1) - g X 0).toNat
theorem inv_bd {X Y : List Int} (ok : CvOk X Y) (y : Int) : g X 0 ≤ invI X Y y ∧ invI X Y y ≤ g X (X.length - 1) := by
  have h1 := ff_le (geB X Y y) (g X (X.length - 1) - g X 0).toNat
  have h2 := (mono_le ok (i := 0) (j := X.length - 1) (by omega) (by have := ok.two; omega)).1
  unfold invI
  omega
set_option maxRecDepth 100000 in
set_option maxHeartbeats 1600000 in
theorem invM (X Y : List Int) (ax ay : Addr) (n cX cY : Nat) (y : Int) (w : World) (SX : Sl w w.heap.size 1 (some ax) (rows X)) (SY : Sl w w.heap.size 1 (some ay) (rows Y)) (hn : n = X.length) (ok : CvOk X Y) (hc : cvCode X Y = 0) (hy : y ≤ g Y (X.length - 1)) :
    Calls Try.prog 83 #[.agg #[.slice (some ax) n cX, .slice (some ay) n cY], .int .i64 y] w fun e w' => e = .returned (.tuple #[.int .i64 (invI X Y y), .nilIface]) ∧ Below w.heap.size w w' := by
  have hb0 := ((Below.refl w.heap.size w).alloc (Nat.le_refl _) (.cells #[.slice (some ax) n cX, .slice (some ay) n cY] 24)).alloc (by simp) (.cells #[.int .i64 y] 3)
  have g0 := (Blk.new w 24 #[.slice (some ax) n cX, .slice (some ay) n cY]).alloc (.cells #[.int .i64 y] 3)
  have g1 := Blk.new' (w := w.alloc (.cells #[.slice (some ax) n cX, .slice (some ay) n cY] 24)) (t := 3) (cs := #[.int .i64 y]) (g := w.heap.size + 1) (by simp)
  have hq0 : QS w ((w.alloc (.cells #[.slice (some ax) n cX, .slice (some ay) n cY] 24)).alloc (.cells #[.int .i64 y] 3)) X Y ax ay n cX cY w.heap.size (w.heap.size + 1) y := ⟨g0, g1, SX.below hb0, SY.below hb0, hb0⟩
  have hck := fun (W : World) (h1 : Sl W W.heap.size 1 (some ax) (rows X)) (h2 : Sl W W.heap.size 1 (some ay) (rows Y)) => cvchk_walk X Y (some ax) (some ay) n n cX cY W h1 h2 hn (by rw [hn, ok.len])
  simp only [hc, errV_zero] at hck
  have hmf : ∀ (fn : Fn) (first cap : Array Value) (w : World), (Instr.makeFunc fn first cap).run Try.prog w = .ok (.func fn first cap) w := fun _ _ _ _ => rfl
  have n2 : 2 ≤ n := by have := ok.two; omega
  have n32 : n ≤ 32 := by have := ok.most; omega
  have b0 := ok.bd 0 (by omega)
  have bl := ok.bd (X.length - 1) (by omega)
  have hm := (mono_le ok (i := 0) (j := X.length - 1) (by omega) (by omega)).1
  obtain ⟨pf, pfa, pfb, f0⟩ := SX.at1' (k := 0) (by omega)
  obtain ⟨pl, pla, plb, z0⟩ := SX.at1' (k := n - 1) (by omega)
  obtain ⟨pe, pea, peb, v0⟩ := SY.at1' (k := n - 1) (by have := ok.len; omega)
  obtain ⟨N, hN⟩ : ∃ N : Nat, (g X (X.length - 1) - g X 0).toNat = N := ⟨_, rfl⟩
  have hse := fun (W : World) (h : QS W W X Y ax ay n cX cY w.heap.size (w.heap.size + 1) y) => searchInv X Y ax ay n cX cY w.heap.size (w.heap.size + 1) y N W h hn ok (by omega)
  have hff := ff_le (geB X Y y) N
  have hv : invI X Y y = g X 0 + ff (geB X Y y) N := by unfold invI; rw [hN]
  rw [hv]
  obtain ⟨F, hF⟩ : ∃ F, ff (geB X Y y) N = F := ⟨_, rfl⟩
  simp only [hF] at hse hff ⊢
  rw [← hn] at hN bl hm hy
  obtain ⟨x0, hx0⟩ : ∃ x, g X 0 = x := ⟨_, rfl⟩
  obtain ⟨xl, hxl⟩ : ∃ x, g X (n - 1) = x := ⟨_, rfl⟩
  obtain ⟨yl, hyl⟩ : ∃ x, g Y (n - 1) = x := ⟨_, rfl⟩
  rw [hx0] at f0 b0 hN hm ⊢
  rw [hxl] at z0 bl hN hm
  rw [hyl] at v0 hy
  have il : ((n : Int) - 1).toNat = n - 1 := by omega
  have hi0 : 0 < n := by omega
  have hi1 : (0 : Int) < (n : Int) := by omega
  have hi5 : (0 : Int) ≤ 0 := by omega
  have hi2 : (0 : Int) ≤ (n : Int) - 1 := by omega
  have hi3 : (n : Int) - 1 < (n : Int) := by omega
  have hi4 : IntKind.i64.wrap ((n : Int) - 1) = (n : Int) - 1 := IntWalk.i64_in _ (by omega)
  have hi6 : 1 ≤ n := by omega
  have hi7 : (1 : Int) ≤ (n : Int) := by omega
  have hd : xl - x0 = (N : Int) := by omega
  have e4 : IntKind.i64.wrap (N : Int) = (N : Int) := IntWalk.i64_in _ (by omega)
  have e1 : IntKind.i64.wrap (xl - x0) = (N : Int) := by rw [hd]; exact IntWalk.i64_in _ (by omega)
  have e2 : IntKind.i64.wrap (x0 + F) = x0 + F := IntWalk.i64_in _ (by omega)
  have e3 : wrap64 (x0 + F) = x0 + F := by unfold wrap64; omega
  have dy : decide (yl < y) = false := decide_eq_false (by omega)
  have HCK := hide hck
  have HSE := hide hse
  clear hck hse hF hx0 hxl hyl hv hN b0 bl hm ok hc hn
  go_enter Try.func83, Try.ntmps83
  go_wp2_with fail
  with_reducible refine ((unhide HCK) _ hq0.x hq0.yy).mono ?_
  rintro e w1 ⟨rfl, hb1⟩
  have hq1 := QS.below hb1 hq0
  have hs1 := hq1.b.size
  have c0 := hq1.p.c2.1
  have c1 := hq1.p.c2.2
  have d0 := hq1.q.c1
  have l1 := hq1.p.lt
  have l2 := hq1.q.lt
  have f1 := (hq1.b.cell (p := pf) pfb).trans f0
  have z1 := (hq1.b.cell (p := pl) plb).trans z0
  have v1 := (hq1.b.cell (p := pe) peb).trans v0
  have pfb1 : pf.block < w1.heap.size := by omega
  have plb1 : pl.block < w1.heap.size := by omega
  have peb1 : pe.block < w1.heap.size := by omega
  go_wp2
  go_quiet (fail)
  go_wp2
  obtain ⟨wq, hwq⟩ : ∃ W, w1.drewN nq = W := ⟨_, rfl⟩
  have hq2 : QS w wq X Y ax ay n cX cY w.heap.size (w.heap.size + 1) y := by
    rw [← hwq]
    exact ⟨hq1.p.drewN nq, hq1.q.drewN nq, hq1.sx.keep fun _ _ => rfl, hq1.sy.keep fun _ _ => rfl, below_drewN hq1.b nq⟩
  simp only [hwq]
  clear hwq c0 c1 d0 f1 z1 v1 l1 l2
  have c0 := hq2.p.c2.1
  have c1 := hq2.p.c2.2
  have d0 := hq2.q.c1
  have l1 := hq2.p.lt
  have l2 := hq2.q.lt
  have f1 := (hq2.b.cell (p := pf) pfb).trans f0
  have z1 := (hq2.b.cell (p := pl) plb).trans z0
  go_region_held3 (fun w' => QS w w' X Y ax ay n cX cY w.heap.size (w.heap.size + 1) y ∧ w'.cell? ⟨w.heap.size, 0, none⟩ = some (.slice (some ax) n cX) ∧ w'.cell? ⟨w.heap.size, 1, none⟩ = some (.slice (some ay) n cY) ∧ w'.cell? ⟨w.heap.size + 1, 0, none⟩ = some (.int .i64 y) ∧ w'.cell? pf = some (.int .i64 x0) ∧ w'.cell? pl = some (.int .i64 xl))
    (first | (refine ⟨?_, ?_, ?_, ?_, ?_, ?_⟩; (first | exact hq2.drew | exact hq2 | exact hasA); (first | exact c0 | exact hasA.p.c2.1); (first | exact c1 | exact hasA.p.c2.2); (first | exact d0 | exact hasA.q.c1); (first | exact f1 | exact (hasA.b.cell (p := pf) pfb).trans f0); (first | exact z1 | exact (hasA.b.cell (p := pl) plb).trans z0)))
    (first | (go_at_call 84; (with_reducible refine ((unhide HSE) _ (QS.self (QS.one ‹QS w _ _ _ _ _ _ _ _ _ _ _ ∧ _›))).mono ?_); rintro e wA ⟨rfl, hbA⟩; have hasA := QS.below hbA (QS.one ‹QS w _ _ _ _ _ _ _ _ _ _ _ ∧ _›)))
  all_goals
    go_wp2
    go_ret2
    exact ⟨rfl, hasA.b⟩
end Go.Proofs.Ytpfkiohknpeifaa
