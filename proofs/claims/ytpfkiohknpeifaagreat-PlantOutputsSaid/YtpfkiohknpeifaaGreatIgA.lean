/- Plain facts on gate signals, with no program in sight: edges, their order, the state of the switches at a count, the parts of a period, the counts at which a leg is high. Plain facts on the sums over the parts of a period. Plain facts: signals without broken switches. -/

namespace Go.Proofs.YtpfkiohknpeifaaGreat.I

/-- An edge: its count, its switch, on or off. -/
structure Ed where
  t : Int
  s : Int
  o : Bool

def edIn (per : Int) (e : Ed) : Bool := decide (0 ≤ e.t) && decide (e.t < per) && decide (0 ≤ e.s) && decide (e.s ≤ 5)
def edLt (a b : Ed) : Bool := decide (a.t < b.t) || (decide (a.t = b.t) && decide (a.s < b.s))
/-- The edge at place i has the specified form. -/
def good (per : Int) (es : List Ed) (i : Nat) : Bool :=
  match es[i]? with
  | none => true
  | some e => edIn per e && (match i with
    | 0 => true
    | j + 1 => match es[j]? with
      | none => true
      | some q => edLt q e)
def shape (per : Int) (es : List Ed) : Bool := (List.range es.length).all (good per es)
def perOk (per : Int) : Bool := decide (64 ≤ per) && decide (per ≤ 4096)
/-- The number of the error of Check. -/
def chk (per : Int) (es : List Ed) : Int := if perOk per then (if shape per es then 0 else 11) else 3

theorem shape_iff (per : Int) (es : List Ed) : shape per es = true ↔ ∀ i, i < es.length → good per es i = true := by
  unfold shape
  simp [List.all_eq_true]
theorem shape_false {per : Int} {es : List Ed} {i : Nat} (h : i < es.length) (hg : good per es i = false) : shape per es = false := by
  rw [Bool.eq_false_iff]
  intro hs
  have := (shape_iff per es).1 hs i h
  rw [hg] at this
  cases this

theorem good_zero {per : Int} {es : List Ed} {e : Ed} (he : es[0]? = some e) : good per es 0 = edIn per e := by
  simp [good, he]
theorem good_succ {per : Int} {es : List Ed} {e q : Ed} {j : Nat} (he : es[j + 1]? = some e) (hq : es[j]? = some q) : good per es (j + 1) = (edIn per e && edLt q e) := by
  simp only [good, he, hq]
theorem chk_bad {per : Int} {es : List Ed} (hp : perOk per = true) {i : Nat} (h : i < es.length) (hg : good per es i = false) : chk per es = 11 := by
  unfold chk; rw [if_pos hp, if_neg (by rw [shape_false h hg]; simp)]
theorem chk_good {per : Int} {es : List Ed} (hp : perOk per = true) (hg : ∀ i, i < es.length → good per es i = true) : chk per es = 0 := by
  unfold chk; rw [if_pos hp, if_pos ((shape_iff per es).2 hg)]
theorem chk_range {per : Int} {es : List Ed} (hp : perOk per = false) : chk per es = 3 := by
  unfold chk; rw [hp]; rfl

/-- What a valid list of edges gives: each lies in the period, and they ascend strictly. -/
structure Valid (per : Int) (es : List Ed) : Prop where
  ins : ∀ i (h : i < es.length), 0 ≤ es[i].t ∧ es[i].t < per ∧ 0 ≤ es[i].s ∧ es[i].s ≤ 5
  next : ∀ i (h : i + 1 < es.length), es[i].t < es[i + 1].t ∨ (es[i].t = es[i + 1].t ∧ es[i].s < es[i + 1].s)

theorem valid_iff (per : Int) (es : List Ed) : shape per es = true ↔ Valid per es := by
  rw [shape_iff]
  constructor
  · intro h
    refine ⟨fun i hi => ?_, fun i hi => ?_⟩
    · have := h i hi
      simp only [good, List.getElem?_eq_getElem hi, Bool.and_eq_true, edIn, decide_eq_true_eq] at this
      exact ⟨this.1.1.1.1, this.1.1.1.2, this.1.1.2, this.1.2⟩
    · have := h (i + 1) hi
      simp only [good, List.getElem?_eq_getElem hi, List.getElem?_eq_getElem (show i < es.length by omega), Bool.and_eq_true, edLt, Bool.or_eq_true, decide_eq_true_eq] at this
      exact this.2
  · intro h i hi
    have h1 := h.ins i hi
    simp only [good, List.getElem?_eq_getElem hi, Bool.and_eq_true, edIn, decide_eq_true_eq]
    refine ⟨⟨⟨⟨h1.1, h1.2.1⟩, h1.2.2.1⟩, h1.2.2.2⟩, ?_⟩
    match i, hi with
    | 0, _ => rfl
    | j + 1, hj =>
      have := h.next j hj
      simp only [List.getElem?_eq_getElem (show j < es.length by omega), edLt, Bool.or_eq_true, Bool.and_eq_true, decide_eq_true_eq]
      exact this

theorem Valid.mono {per : Int} {es : List Ed} (h : Valid per es) {i j : Nat} (hij : i ≤ j) (hj : j < es.length) : es[i].t ≤ es[j].t := by
  induction j with
  | zero => have : i = 0 := by omega
            subst this; exact Int.le_refl _
  | succ j ih =>
    by_cases e : i = j + 1
    · subst e; exact Int.le_refl _
    · have h1 := ih (by omega) (by omega)
      have h2 := h.next j hj
      omega
theorem Valid.tail {per : Int} {e : Ed} {es : List Ed} (h : Valid per (e :: es)) : Valid per es :=
  ⟨fun i hi => by have := h.ins (i + 1) (by simpa using hi); simpa using this,
   fun i hi => by have := h.next (i + 1) (by simpa using hi); simpa using this⟩
theorem Valid.head_le {per : Int} {e : Ed} {es : List Ed} (h : Valid per (e :: es)) : ∀ x ∈ es, e.t ≤ x.t := by
  intro x hx
  obtain ⟨i, hi, rfl⟩ := List.getElem_of_mem hx
  have := h.mono (i := 0) (j := i + 1) (by omega) (by simpa using hi)
  simpa using this
theorem Valid.nil (per : Int) : Valid per [] := ⟨fun i h => by simp at h, fun i h => by simp at h⟩

/-- One edge on the states of the switches. -/
def step (on : List Bool) (e : Ed) : List Bool := on.set e.s.toNat e.o
theorem step_length (on : List Bool) (e : Ed) : (step on e).length = on.length := by simp [step]
theorem fold_length (es : List Ed) : ∀ on : List Bool, (es.foldl step on).length = on.length := by
  induction es with
  | nil => intro on; rfl
  | cons e es ih => intro on; rw [List.foldl_cons, ih, step_length]
/-- The states at a count. -/
def onAt (on : List Bool) (es : List Ed) (t : Int) : List Bool := es.foldl (fun b e => if e.t ≤ t then step b e else b) on
theorem onAt_length (es : List Ed) (t : Int) : ∀ on : List Bool, (onAt on es t).length = on.length := by
  induction es with
  | nil => intro on; rfl
  | cons e es ih =>
    intro on
    unfold onAt
    rw [List.foldl_cons]
    have := ih (if e.t ≤ t then step on e else on)
    unfold onAt at this
    rw [this]
    split
    · exact step_length on e
    · rfl
theorem onAt_cons (on : List Bool) (e : Ed) (es : List Ed) (t : Int) : onAt on (e :: es) t = onAt (if e.t ≤ t then step on e else on) es t := rfl
/-- Edges that all lie behind the count change nothing. -/
theorem onAt_later (es : List Ed) (t : Int) (h : ∀ x ∈ es, t < x.t) (on : List Bool) : onAt on es t = on := by
  induction es generalizing on with
  | nil => rfl
  | cons e es ih =>
    have h1 := h e (by simp)
    rw [onAt_cons, if_neg (by omega)]
    exact ih (fun x hx => h x (by simp [hx])) on
/-- Where the first j edges lie at or ahead of the count and the others behind it, the state is that of the first j. -/
theorem onAt_take (es : List Ed) (t : Int) (j : Nat) (h1 : ∀ i, i < j → ∀ x, es[i]? = some x → x.t ≤ t) (h2 : ∀ i, j ≤ i → ∀ x, es[i]? = some x → t < x.t) (on : List Bool) :
    onAt on es t = (es.take j).foldl step on := by
  induction es generalizing on j with
  | nil => simp [onAt]
  | cons e es ih =>
    match j with
    | 0 =>
      rw [onAt_later _ _ (fun x hx => ?_)]
      · rfl
      · obtain ⟨i, hi, rfl⟩ := List.getElem_of_mem hx
        exact h2 i (Nat.zero_le _) _ (List.getElem?_eq_getElem hi)
    | j + 1 =>
      have := h1 0 (by omega) e rfl
      rw [onAt_cons, if_pos this, List.take_succ_cons, List.foldl_cons]
      exact ih j (fun i hi x hx => h1 (i + 1) (by omega) x (by simpa using hx)) (fun i hi x hx => h2 (i + 1) (by omega) x (by simpa using hx)) _

/-- The parts of a period in which no switch changes: how many counts, and the states. -/
def spansF (per : Int) : List Ed → List Bool → Int → List (Int × List Bool)
  | [], on, from_ => [(per - from_, on)]
  | e :: es, on, from_ => if from_ < e.t then (e.t - from_, on) :: spansF per es (step on e) e.t else spansF per es (step on e) from_
def spansOf (per : Int) (on : List Bool) (es : List Ed) : List (Int × List Bool) := spansF per es on 0

theorem spansF_step {per t : Int} {es : List Ed} {e : Ed} {k : Nat} {on : List Bool} (he : es[k]? = some e) :
    spansF per (es.drop k) on t = if t < e.t then (e.t - t, on) :: spansF per (es.drop (k + 1)) (step on e) e.t else spansF per (es.drop (k + 1)) (step on e) t := by
  obtain ⟨h, rfl⟩ := List.getElem?_eq_some_iff.1 he
  rw [List.drop_eq_getElem_cons h]
  rfl
theorem spansF_end {per t : Int} {es : List Ed} {k : Nat} {on : List Bool} (hk : es.length ≤ k) : spansF per (es.drop k) on t = [(per - t, on)] := by
  rw [List.drop_eq_nil_of_le hk]
  rfl
theorem Valid.later {per : Int} {es : List Ed} (h : Valid per es) {k : Nat} {e : Ed} (he : es[k]? = some e) : ∀ j x, k + 1 ≤ j → es[j]? = some x → e.t ≤ x.t := by
  intro j x hj hx
  obtain ⟨h1, rfl⟩ := List.getElem?_eq_some_iff.1 he
  obtain ⟨h2, rfl⟩ := List.getElem?_eq_some_iff.1 hx
  exact h.mono (by omega) h2

/-- How many of the m counts from a on satisfy p. -/
def cnt (p : Int → Bool) (a : Int) : Nat → Int
  | 0 => 0
  | m + 1 => cnt p a m + if p (a + m) then 1 else 0
theorem cnt_congr {p q : Int → Bool} {a : Int} {m : Nat} (h : ∀ x, a ≤ x → x < a + m → p x = q x) : cnt p a m = cnt q a m := by
  induction m with
  | zero => rfl
  | succ m ih =>
    simp only [cnt]
    rw [ih (fun x h1 h2 => h x h1 (by omega)), h (a + m) (by omega) (by omega)]
theorem cnt_const (b : Bool) (a : Int) (m : Nat) : cnt (fun _ => b) a m = if b then (m : Int) else 0 := by
  induction m with
  | zero => simp [cnt]
  | succ m ih => simp only [cnt, ih]; cases b <;> simp
theorem cnt_add (p : Int → Bool) (a : Int) (m n : Nat) : cnt p a (m + n) = cnt p a m + cnt p (a + m) n := by
  induction n with
  | zero => simp [cnt]
  | succ n ih =>
    rw [Nat.add_succ]
    simp only [cnt]
    rw [ih]
    have : a + ((m + n : Nat) : Int) = a + m + n := by omega
    rw [this]; omega
theorem cnt_nonneg (p : Int → Bool) (a : Int) (m : Nat) : 0 ≤ cnt p a m ∧ cnt p a m ≤ m := by
  induction m with
  | zero => simp [cnt]
  | succ m ih => simp only [cnt]; split <;> omega

/-- The sum over the parts. -/
def sumF (p : List Bool → Bool) : List (Int × List Bool) → Int
  | [] => 0
  | x :: l => (if p x.2 then x.1 else 0) + sumF p l
theorem sumF_append (p : List Bool → Bool) (l m : List (Int × List Bool)) : sumF p (l ++ m) = sumF p l + sumF p m := by
  induction l with
  | nil => simp [sumF]
  | cons x l ih => simp only [List.cons_append, sumF, ih]; omega

theorem sumF_spansF (p : List Bool → Bool) (per : Int) (es : List Ed) : ∀ (on : List Bool) (a : Int), Valid per es → (∀ x ∈ es, a ≤ x.t) → a ≤ per →
    sumF p (spansF per es on a) = cnt (fun t => p (onAt on es t)) a (per - a).toNat := by
  induction es with
  | nil =>
    intro on a _ _ ha
    simp only [spansF, sumF]
    rw [show (fun t => p (onAt on [] t)) = fun _ => p on from rfl, cnt_const]
    split <;> omega
  | cons e es ih =>
    intro on a hv hx ha
    have h1 := hv.ins 0 (by simp)
    simp only [List.getElem_cons_zero] at h1
    have hle := hv.head_le
    have hae := hx e (by simp)
    simp only [spansF]
    by_cases hlt : a < e.t
    · rw [if_pos hlt]
      simp only [sumF]
      rw [ih (step on e) e.t hv.tail hle (by omega)]
      have hsplit : (per - a).toNat = (e.t - a).toNat + (per - e.t).toNat := by omega
      rw [hsplit, cnt_add]
      have e1 : cnt (fun t => p (onAt on (e :: es) t)) a (e.t - a).toNat = if p on then e.t - a else 0 := by
        rw [cnt_congr (q := fun _ => p on)]
        · rw [cnt_const]; split <;> omega
        · intro x h3 h4
          show p (onAt on (e :: es) x) = p on
          rw [onAt_later _ _ (fun y hy => ?_)]
          rcases List.mem_cons.1 hy with rfl | hy
          · omega
          · have := hle y hy; omega
      have e2 : cnt (fun t => p (onAt on (e :: es) t)) (a + ((e.t - a).toNat : Int)) (per - e.t).toNat = cnt (fun t => p (onAt (step on e) es t)) e.t (per - e.t).toNat := by
        rw [show a + ((e.t - a).toNat : Int) = e.t from by omega]
        apply cnt_congr
        intro x h3 h4
        show p (onAt on (e :: es) x) = p (onAt (step on e) es x)
        rw [onAt_cons, if_pos (by omega)]
      rw [e1, e2]
    · rw [if_neg hlt]
      rw [ih (step on e) a hv.tail (fun x hx' => by have := hle x hx'; omega) ha]
      apply cnt_congr
      intro x h3 h4
      show p (onAt (step on e) es x) = p (onAt on (e :: es) x)
      rw [onAt_cons, if_pos (by omega)]

/-- Some part satisfies p, just where some count does. -/
theorem any_spansF (p : List Bool → Bool) (per : Int) (es : List Ed) : ∀ (on : List Bool) (a : Int), Valid per es → (∀ x ∈ es, a ≤ x.t) → a < per →
    ((spansF per es on a).any (fun x => p x.2) = true ↔ ∃ t, a ≤ t ∧ t < per ∧ p (onAt on es t) = true) := by
  induction es with
  | nil =>
    intro on a _ _ ha
    simp only [spansF, List.any_cons, List.any_nil, Bool.or_false]
    constructor
    · intro h; exact ⟨a, by omega, ha, h⟩
    · rintro ⟨t, _, _, h⟩; exact h
  | cons e es ih =>
    intro on a hv hx ha
    have h1 := hv.ins 0 (by simp)
    simp only [List.getElem_cons_zero] at h1
    have hle := hv.head_le
    have hae := hx e (by simp)
    simp only [spansF]
    by_cases hlt : a < e.t
    · rw [if_pos hlt]
      simp only [List.any_cons, Bool.or_eq_true]
      rw [ih (step on e) e.t hv.tail hle h1.2.1]
      constructor
      · rintro (h | ⟨t, h3, h4, h5⟩)
        · refine ⟨a, by omega, ha, ?_⟩
          rw [onAt_later _ _ (fun y hy => ?_)]
          · exact h
          · rcases List.mem_cons.1 hy with rfl | hy
            · omega
            · have := hle y hy; omega
        · refine ⟨t, by omega, h4, ?_⟩
          rw [onAt_cons, if_pos (by omega)]
          exact h5
      · rintro ⟨t, h3, h4, h5⟩
        by_cases htt : t < e.t
        · left
          rw [onAt_later _ _ (fun y hy => ?_)] at h5
          · exact h5
          · rcases List.mem_cons.1 hy with rfl | hy
            · omega
            · have := hle y hy; omega
        · right
          rw [onAt_cons, if_pos (by omega)] at h5
          exact ⟨t, by omega, h4, h5⟩
    · rw [if_neg hlt]
      rw [ih (step on e) a hv.tail (fun x hx' => by have := hle x hx'; omega) ha]
      constructor
      · rintro ⟨t, h3, h4, h5⟩
        refine ⟨t, h3, h4, ?_⟩
        rw [onAt_cons, if_pos (by omega)]
        exact h5
      · rintro ⟨t, h3, h4, h5⟩
        refine ⟨t, h3, h4, ?_⟩
        rw [onAt_cons, if_pos (by omega)] at h5
        exact h5

/-- A leg is shorted in a state. -/
def shortB (b : List Bool) : Bool := (b.getD 0 false && b.getD 1 false) || (b.getD 2 false && b.getD 3 false) || (b.getD 4 false && b.getD 5 false)
/-- A leg is high in a state. -/
def highB (leg : Nat) (neg : Bool) (b : List Bool) : Bool := b.getD (2 * leg) false || (!b.getD (2 * leg + 1) false && neg)

/-- The states at every count, as the reference lists them. -/
def rowsF (per : Int) (on : List Bool) (es : List Ed) : List (List Bool) := (List.range per.toNat).map fun (t : Nat) => onAt on es (t : Int)
def shortR (per : Int) (on : List Bool) (es : List Ed) : Bool := (rowsF per on es).any shortB
def highR (per : Int) (on : List Bool) (es : List Ed) (leg : Nat) (neg : Bool) : Int := cnt (fun t => highB leg neg (onAt on es t)) 0 per.toNat
/-- The number of the error of signals that are used. -/
def err (per : Int) (on : List Bool) (es : List Ed) : Int := if chk per es = 0 then (if shortR per on es then 15 else 0) else chk per es

theorem chk_zero {per : Int} {es : List Ed} (h : chk per es = 0) : 64 ≤ per ∧ per ≤ 4096 ∧ Valid per es := by
  unfold chk at h
  by_cases h1 : perOk per = true
  · rw [if_pos h1] at h
    by_cases h2 : shape per es = true
    · simp only [perOk, Bool.and_eq_true, decide_eq_true_eq] at h1
      exact ⟨h1.1, h1.2, (valid_iff per es).1 h2⟩
    · rw [if_neg h2] at h; cases h
  · rw [if_neg h1] at h; cases h
theorem chk_cases (per : Int) (es : List Ed) : chk per es = 0 ∨ chk per es = 3 ∨ chk per es = 11 := by
  unfold chk
  split
  · split
    · exact .inl rfl
    · exact .inr (.inr rfl)
  · exact .inr (.inl rfl)

theorem short_eq {per : Int} {on : List Bool} {es : List Ed} (h : chk per es = 0) : (spansOf per on es).any (fun x => shortB x.2) = shortR per on es := by
  obtain ⟨h1, h2, hv⟩ := chk_zero h
  rw [Bool.eq_iff_iff]
  unfold spansOf
  rw [any_spansF shortB per es on 0 hv (fun x hx => by
    obtain ⟨i, hi, rfl⟩ := List.getElem_of_mem hx
    exact (hv.ins i hi).1) (by omega)]
  unfold shortR rowsF
  simp only [List.any_map, List.any_eq_true, List.mem_range, Function.comp]
  constructor
  · rintro ⟨t, h3, h4, h5⟩
    refine ⟨t.toNat, by omega, ?_⟩
    rw [Int.toNat_of_nonneg h3]; exact h5
  · rintro ⟨t, h3, h4⟩
    exact ⟨t, by omega, by omega, h4⟩
theorem high_eq {per : Int} {on : List Bool} {es : List Ed} (h : chk per es = 0) (p : List Bool → Bool) : sumF p (spansOf per on es) = cnt (fun t => p (onAt on es t)) 0 per.toNat := by
  obtain ⟨h1, h2, hv⟩ := chk_zero h
  unfold spansOf
  rw [sumF_spansF p per es on 0 hv (fun x hx => by
    obtain ⟨i, hi, rfl⟩ := List.getElem_of_mem hx
    exact (hv.ins i hi).1) (by omega)]
  simp

end Go.Proofs.YtpfkiohknpeifaaGreat.I

namespace Go.Proofs.YtpfkiohknpeifaaGreat.I

theorem spansF_nonneg (per : Int) (es : List Ed) : ∀ (on : List Bool) (a : Int), Valid per es → (∀ x ∈ es, a ≤ x.t) → a ≤ per → ∀ x ∈ spansF per es on a, 0 ≤ x.1 ∧ x.2.length = on.length := by
  induction es with
  | nil =>
    intro on a _ _ ha x hx
    simp only [spansF, List.mem_singleton] at hx
    subst hx
    exact ⟨by simp; omega, rfl⟩
  | cons e es ih =>
    intro on a hv hx ha x hm
    have h1 := hv.ins 0 (by simp)
    simp only [List.getElem_cons_zero] at h1
    have hle := hv.head_le
    simp only [spansF] at hm
    by_cases hlt : a < e.t
    · rw [if_pos hlt] at hm
      rcases List.mem_cons.1 hm with rfl | hm
      · exact ⟨by simp; omega, rfl⟩
      · have := ih (step on e) e.t hv.tail hle (by omega) x hm
        rw [step_length] at this
        exact this
    · rw [if_neg hlt] at hm
      have hae := hx e (by simp)
      have := ih (step on e) a hv.tail (fun y hy => by have := hle y hy; omega) ha x hm
      rw [step_length] at this
      exact this

theorem spans_mem {per : Int} {on : List Bool} {es : List Ed} (hv : Valid per es) (hp : 64 ≤ per) : ∀ x ∈ spansOf per on es, 0 ≤ x.1 ∧ x.2.length = on.length :=
  spansF_nonneg per es on 0 hv (fun x hx => by
    obtain ⟨i, hi, rfl⟩ := List.getElem_of_mem hx
    exact (hv.ins i hi).1) (by omega)

theorem spansF_length (per : Int) (es : List Ed) : ∀ (on : List Bool) (a : Int), (spansF per es on a).length ≤ es.length + 1 := by
  induction es with
  | nil => intro on a; simp [spansF]
  | cons e es ih =>
    intro on a
    simp only [spansF]
    split
    · have := ih (step on e) e.t
      simp only [List.length_cons]
      omega
    · have := ih (step on e) a
      simp only [List.length_cons]
      omega
theorem spans_length {per : Int} {on : List Bool} {es : List Ed} : (spansOf per on es).length ≤ es.length + 1 := spansF_length per es on 0
theorem sumF_bounds (p : List Bool → Bool) (l : List (Int × List Bool)) (h : ∀ x ∈ l, 0 ≤ x.1) : 0 ≤ sumF p l ∧ sumF p l ≤ sumF (fun _ => true) l := by
  induction l with
  | nil => simp [sumF]
  | cons x l ih =>
    have h1 := h x (by simp)
    have h2 := ih (fun y hy => h y (by simp [hy]))
    simp only [sumF, if_true]
    split <;> omega
theorem sumF_take_succ {p : List Bool → Bool} {l : List (Int × List Bool)} {k : Nat} {x : Int × List Bool} (hx : l[k]? = some x) :
    sumF p (l.take (k + 1)) = sumF p (l.take k) + if p x.2 then x.1 else 0 := by
  obtain ⟨h, rfl⟩ := List.getElem?_eq_some_iff.1 hx
  rw [List.take_succ_eq_append_getElem h, sumF_append]
  simp [sumF]
theorem sum_bd {per : Int} {on : List Bool} {es : List Ed} (hc : chk per es = 0) (p : List Bool → Bool) {k : Nat} {x : Int × List Bool} (hx : (spansOf per on es)[k]? = some x) :
    0 ≤ x.1 ∧ 0 ≤ sumF p ((spansOf per on es).take k) ∧ sumF p ((spansOf per on es).take k) + x.1 ≤ per := by
  obtain ⟨hp, _, hv⟩ := chk_zero hc
  have hnn : ∀ y ∈ spansOf per on es, 0 ≤ y.1 := fun y hy => (spans_mem hv hp y hy).1
  have ht : sumF (fun _ => true) (spansOf per on es) = per := by
    rw [high_eq hc, cnt_const]; simp; omega
  have hall := ht
  rw [← List.take_append_drop (k + 1) (spansOf per on es), sumF_append, sumF_take_succ hx] at hall
  have hd := sumF_bounds (fun _ => true) ((spansOf per on es).drop (k + 1)) (fun y hy => hnn y (List.mem_of_mem_drop hy))
  have hk := sumF_bounds p ((spansOf per on es).take k) (fun y hy => hnn y (List.mem_of_mem_take hy))
  have hx0 := hnn x (List.mem_of_getElem? hx)
  simp only [if_true] at hall
  omega

/-- What a part adds to the high counts of a leg. -/
def addD (leg : Nat) (neg : Bool) (on : List Bool) (q : Int) : Int := if highB leg neg on then q else 0
theorem addD_yes {leg : Nat} {neg : Bool} {on : List Bool} {q : Int} (h : highB leg neg on = true) : addD leg neg on q = q := if_pos h
theorem addD_no {leg : Nat} {neg : Bool} {on : List Bool} {q : Int} (h : highB leg neg on = false) : addD leg neg on q = 0 := by unfold addD; rw [h]; rfl
theorem sumF_add {leg : Nat} {neg : Bool} {l : List (Int × List Bool)} {k : Nat} {q : Int} {on : List Bool} (hx : l[k]? = some (q, on)) :
    sumF (highB leg neg) (l.take (k + 1)) = sumF (highB leg neg) (l.take k) + addD leg neg on q := sumF_take_succ hx
theorem highB_0 (neg c0 c1 c2 c3 c4 c5 : Bool) : highB 0 neg [c0, c1, c2, c3, c4, c5] = (c0 || (!c1 && neg)) := rfl
theorem highB_1 (neg c0 c1 c2 c3 c4 c5 : Bool) : highB 1 neg [c0, c1, c2, c3, c4, c5] = (c2 || (!c3 && neg)) := rfl
theorem highB_2 (neg c0 c1 c2 c3 c4 c5 : Bool) : highB 2 neg [c0, c1, c2, c3, c4, c5] = (c4 || (!c5 && neg)) := rfl

/-- The high counts as High returns them: 0 with an error. -/
def hgh (per : Int) (on : List Bool) (es : List Ed) (leg : Nat) (cur : Int) : Int := if err per on es = 0 then highR per on es leg (decide (cur < 0)) else 0
theorem hgh_bd {per : Int} {on : List Bool} {es : List Ed} {leg : Nat} {cur : Int} : 0 ≤ hgh per on es leg cur ∧ hgh per on es leg cur ≤ 4096 := by
  unfold hgh
  split
  · rename_i h
    have hc : chk per es = 0 := by
      unfold err at h
      split at h
      · assumption
      · exact h
    obtain ⟨h1, h2, _⟩ := chk_zero hc
    have := cnt_nonneg (fun t => highB leg (decide (cur < 0)) (onAt on es t)) 0 per.toNat
    unfold highR
    omega
  · omega
theorem err_ok {per : Int} {on : List Bool} {es : List Ed} (h : err per on es = 0) : chk per es = 0 ∧ shortR per on es = false := by
  unfold err at h
  by_cases hc : chk per es = 0
  · rw [if_pos hc] at h
    refine ⟨hc, ?_⟩
    cases hs : shortR per on es
    · rfl
    · rw [hs] at h; cases h
  · rw [if_neg hc] at h; exact absurd h hc
theorem err_chk {per : Int} {on : List Bool} {es : List Ed} (h : chk per es ≠ 0) : err per on es = chk per es := if_neg h
theorem err_short {per : Int} {on : List Bool} {es : List Ed} (h : chk per es = 0) (hs : shortR per on es = true) : err per on es = 15 := by
  unfold err; rw [if_pos h, if_pos hs]
theorem err_zero {per : Int} {on : List Bool} {es : List Ed} (h : chk per es = 0) (hs : shortR per on es = false) : err per on es = 0 := by
  unfold err; rw [if_pos h, hs]; rfl
theorem hgh_err {per : Int} {on : List Bool} {es : List Ed} {leg : Nat} {cur : Int} (h : err per on es ≠ 0) : hgh per on es leg cur = 0 := if_neg h
theorem hgh_ok {per : Int} {on : List Bool} {es : List Ed} {leg : Nat} {cur : Int} (h : err per on es = 0) : hgh per on es leg cur = sumF (highB leg (decide (cur < 0))) (spansOf per on es) := by
  unfold hgh; rw [if_pos h, high_eq (err_ok h).1]; rfl
theorem hgh_cnt {per : Int} {on : List Bool} {es : List Ed} {leg : Nat} {cur : Int} (h : err per on es = 0) : hgh per on es leg cur = highR per on es leg (decide (cur < 0)) := if_pos h

end Go.Proofs.YtpfkiohknpeifaaGreat.I

namespace Go.Proofs.YtpfkiohknpeifaaGreat.I

/-- An edge stays: its switch does not exist, or is not broken. -/
def keepE (ks : List Bool) (e : Ed) : Bool := decide (e.s < 0) || (decide (5 < e.s) || !ks.getD e.s.toNat false)
def brk (ks : List Bool) (es : List Ed) : List Ed := es.filter (keepE ks)
theorem brk_take_yes {ks : List Bool} {es : List Ed} {k : Nat} {e : Ed} (he : es[k]? = some e) (h : keepE ks e = true) : brk ks (es.take (k + 1)) = brk ks (es.take k) ++ [e] := by
  obtain ⟨h1, rfl⟩ := List.getElem?_eq_some_iff.1 he
  unfold brk
  rw [List.take_succ_eq_append_getElem h1, List.filter_append]
  simp [h]
theorem brk_take_no {ks : List Bool} {es : List Ed} {k : Nat} {e : Ed} (he : es[k]? = some e) (h : keepE ks e = false) : brk ks (es.take (k + 1)) = brk ks (es.take k) := by
  obtain ⟨h1, rfl⟩ := List.getElem?_eq_some_iff.1 he
  unfold brk
  rw [List.take_succ_eq_append_getElem h1, List.filter_append]
  simp [h]
theorem brk_length (ks : List Bool) (es : List Ed) : (brk ks es).length ≤ es.length := List.length_filter_le _ _
def brkOn (on ks : List Bool) : List Bool := List.zipWith (fun b k => b && !k) on ks

/-- Strictly ahead of. -/
def ltE (a b : Ed) : Prop := a.t < b.t ∨ (a.t = b.t ∧ a.s < b.s)
theorem ltE_trans {a b c : Ed} (h1 : ltE a b) (h2 : ltE b c) : ltE a c := by unfold ltE at *; omega
theorem valid_pairs {per : Int} {es : List Ed} : Valid per es ↔ (∀ x ∈ es, 0 ≤ x.t ∧ x.t < per ∧ 0 ≤ x.s ∧ x.s ≤ 5) ∧ es.Pairwise ltE := by
  constructor
  · intro h
    refine ⟨fun x hx => ?_, ?_⟩
    · obtain ⟨i, hi, rfl⟩ := List.getElem_of_mem hx
      exact h.ins i hi
    · rw [List.pairwise_iff_getElem]
      intro i j hi hj hij
      induction j with
      | zero => omega
      | succ j ih =>
        by_cases e : i = j
        · subst e; exact h.next i hj
        · exact ltE_trans (ih (by omega) (by omega)) (h.next j hj)
  · rintro ⟨h1, h2⟩
    rw [List.pairwise_iff_getElem] at h2
    exact ⟨fun i hi => h1 _ (List.getElem_mem hi), fun i hi => h2 i (i + 1) (by omega) hi (by omega)⟩
theorem brk_valid {per : Int} {es : List Ed} (ks : List Bool) (h : Valid per es) : Valid per (brk ks es) := by
  rw [valid_pairs] at h ⊢
  exact ⟨fun x hx => h.1 x (List.mem_filter.1 hx).1, h.2.filter _⟩
theorem brk_chk {per : Int} {es : List Ed} (ks : List Bool) (h : chk per es = 0) : chk per (brk ks es) = 0 := by
  obtain ⟨h1, h2, hv⟩ := chk_zero h
  unfold chk
  rw [if_pos (by simp only [perOk, Bool.and_eq_true, decide_eq_true_eq]; exact ⟨h1, h2⟩), if_pos ((valid_iff _ _).2 (brk_valid ks hv))]

/-- The states with and without broken switches agree but for the broken ones. -/
def agree (ks on on' : List Bool) : Prop := ∀ j, on'.getD j false = true → on.getD j false = true ∧ ks.getD j false = false
theorem getD_set (l : List Bool) (i j : Nat) (b : Bool) : (l.set i b).getD j false = if i = j ∧ i < l.length then b else l.getD j false := by
  simp only [List.getD, List.getElem?_set]
  by_cases h : i = j
  · subst h
    by_cases hl : i < l.length
    · simp [hl]
    · simp [hl]
  · simp [h]
theorem agree_step {ks on on' : List Bool} {e : Ed} (hlen : on'.length = on.length) (h : agree ks on on') (h0 : 0 ≤ e.s) (h5 : e.s ≤ 5) : agree ks (step on e) (if keepE ks e then step on' e else on') := by
  intro j
  cases hk : keepE ks e with
  | true =>
    simp only [if_true]
    have hnb : ks.getD e.s.toNat false = false := by
      simp only [keepE, Bool.or_eq_true, decide_eq_true_eq, Bool.not_eq_true'] at hk
      rcases hk with h1 | h1 | h1
      · omega
      · omega
      · exact h1
    unfold step
    rw [getD_set, getD_set, hlen]
    by_cases hj : e.s.toNat = j ∧ e.s.toNat < on.length
    · rw [if_pos hj, if_pos hj]
      intro ho
      exact ⟨ho, by rw [← hj.1]; exact hnb⟩
    · rw [if_neg hj, if_neg hj]
      exact h j
  | false =>
    simp only [Bool.false_eq_true, if_false]
    have hb : ks.getD e.s.toNat false = true := by
      simp only [keepE, Bool.or_eq_false_iff, Bool.not_eq_false'] at hk
      exact hk.2.2
    unfold step
    rw [getD_set]
    intro ho
    obtain ⟨h1, h2⟩ := h j ho
    by_cases hj : e.s.toNat = j ∧ e.s.toNat < on.length
    · rw [hj.1] at hb
      rw [hb] at h2
      cases h2
    · rw [if_neg hj]
      exact ⟨h1, h2⟩
theorem agree_onAt {ks : List Bool} {t : Int} (es : List Ed) : ∀ (on on' : List Bool), on'.length = on.length → (∀ x ∈ es, 0 ≤ x.s ∧ x.s ≤ 5) → agree ks on on' → agree ks (onAt on es t) (onAt on' (brk ks es) t) := by
  induction es with
  | nil => intro on on' _ _ h; exact h
  | cons e es ih =>
    intro on on' hl hs h
    have he := hs e (by simp)
    rw [onAt_cons]
    have hst := agree_step hl h he.1 he.2
    unfold brk at ih ⊢
    rw [List.filter_cons]
    by_cases ht : e.t ≤ t
    · rw [if_pos ht]
      cases hk : keepE ks e with
      | true =>
        rw [hk] at hst
        simp only [if_true] at hst ⊢
        rw [onAt_cons, if_pos ht]
        exact ih _ _ (by rw [step_length, step_length, hl]) (fun x hx => hs x (by simp [hx])) hst
      | false =>
        rw [hk] at hst
        simp only [Bool.false_eq_true, if_false] at hst ⊢
        exact ih _ _ (by rw [step_length, hl]) (fun x hx => hs x (by simp [hx])) hst
    · rw [if_neg ht]
      cases hk : keepE ks e with
      | true =>
        simp only [if_true]
        rw [onAt_cons, if_neg ht]
        exact ih _ _ hl (fun x hx => hs x (by simp [hx])) h
      | false =>
        simp only [Bool.false_eq_true, if_false]
        exact ih _ _ hl (fun x hx => hs x (by simp [hx])) h
theorem agree_short {ks on on' : List Bool} (h : agree ks on on') (hs : shortB on' = true) : shortB on = true := by
  unfold shortB at hs ⊢
  simp only [Bool.or_eq_true, Bool.and_eq_true] at hs ⊢
  rcases hs with (hs | hs) | hs
  · exact .inl (.inl ⟨(h _ hs.1).1, (h _ hs.2).1⟩)
  · exact .inl (.inr ⟨(h _ hs.1).1, (h _ hs.2).1⟩)
  · exact .inr ⟨(h _ hs.1).1, (h _ hs.2).1⟩
theorem brk_short {per : Int} {on on' ks : List Bool} {es : List Ed} (hv : Valid per es) (hl : on'.length = on.length) (h : agree ks on on') (hs : shortR per on' (brk ks es) = true) : shortR per on es = true := by
  unfold shortR rowsF at hs ⊢
  rw [List.any_eq_true] at hs ⊢
  obtain ⟨x, hx, hsx⟩ := hs
  obtain ⟨t, ht, rfl⟩ := List.mem_map.1 hx
  refine ⟨_, List.mem_map.2 ⟨t, ht, rfl⟩, agree_short (agree_onAt es on on' hl (fun x hx => ?_) h) hsx⟩
  exact ⟨((valid_pairs.1 hv).1 x hx).2.2.1, ((valid_pairs.1 hv).1 x hx).2.2.2⟩
theorem agree_six (b0 b1 b2 b3 b4 b5 k0 k1 k2 k3 k4 k5 : Bool) : agree [k0, k1, k2, k3, k4, k5] [b0, b1, b2, b3, b4, b5] [b0 && !k0, b1 && !k1, b2 && !k2, b3 && !k3, b4 && !k4, b5 && !k5] := by
  intro j
  match j with
  | 0 => simp
  | 1 => simp
  | 2 => simp
  | 3 => simp
  | 4 => simp
  | 5 => simp
  | j + 6 => simp

end Go.Proofs.YtpfkiohknpeifaaGreat.I
