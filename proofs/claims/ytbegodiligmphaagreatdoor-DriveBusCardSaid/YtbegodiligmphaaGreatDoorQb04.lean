/- Part of the proof of BusProof. A symbolic evaluator: ranges of entries. No program in sight. A symbolic evaluator: contracts that are written down, and checked by the kernel. No program in sight. A symbolic evaluator: tables of types and functions as trees. No program in sight. MADE BY PROGRAM (gentab.py): the program's types and functions as trees. A symbolic evaluator: contracts that are proved by hand. No program in sight. A symbolic evaluator: contracts of functions on memory: patterns. No program in sight. A symbolic evaluator: contracts of functions on memory: what is behind them. No program in sight. A symbolic evaluator: contracts of functions on memory, out of evaluations. No program in sight. -/
import Derived.Test.YtbegodiligmphaaGreatDoorProg
import Derived.Test.YtbegodiligmphaaGreatDoorQb03
namespace Go.Proofs.YtbegodiligmphaaGreatDoor.Sy
open Go
abbrev Iv := Option (Int × Int)
def Iv.has (v : Iv) (n : Int) : Prop := ∀ p,v = some p → p.1 ≤ n ∧ n ≤ p.2
inductive Tr where
 | nil
 | node (v : Iv) (l r : Tr)
 deriving Inhabited
def Tr.get : Nat → Tr → Nat → Iv
 | 0,_,_=>none
 | _ + 1,.nil,_=>none
 | f + 1,.node v l r,i=>match i with
  | 0=>v
  | i + 1=>if i % 2 = 0 then Tr.get f l (i / 2) else Tr.get f r (i / 2)
def Tr.set : Nat → Tr → Nat → Iv → Tr
 | 0,t,_,_=>t
 | f + 1,.nil,i,x=>match i with
  | 0=>.node x .nil .nil
  | i + 1=>if i % 2 = 0 then .node none (Tr.set f .nil (i / 2) x) .nil else .node none .nil (Tr.set f .nil (i / 2) x)
 | f + 1,.node v l r,i,x=>match i with
  | 0=>.node x l r
  | i + 1=>if i % 2 = 0 then .node v (Tr.set f l (i / 2) x) r else .node v l (Tr.set f r (i / 2) x)
theorem Tr.get_nil : ∀ (f i : Nat),Tr.get f .nil i = none
 | 0,_=>rfl
 | _ + 1,_=>rfl
theorem Tr.get_set : ∀ (f : Nat) (t : Tr) (i j : Nat) (x : Iv) (p : Int × Int),Tr.get f (Tr.set f t i x) j = some p → (j = i ∧ x = some p) ∨ Tr.get f t j = some p
 | 0,_,_,_,_,_,h=>by cases h
 | f + 1,.nil,i,j,x,p,h=>by
  cases i with
  | zero =>
   simp only [Tr.set] at h
   cases j with
   | zero=>exact .inl ⟨rfl,h⟩
   | succ j =>
    simp only [Tr.get] at h
    split at h <;> (rw [Tr.get_nil] at h; cases h)
  | succ i =>
   simp only [Tr.set] at h
   split at h
   ·cases j with
    | zero=>simp only [Tr.get] at h; cases h
    | succ j =>
     simp only [Tr.get] at h
     split at h
     ·rcases Tr.get_set f .nil _ _ x p h with ⟨h1,h2⟩ | h1
      ·exact .inl ⟨by omega,h2⟩
      ·rw [Tr.get_nil] at h1; cases h1
     ·rw [Tr.get_nil] at h; cases h
   ·cases j with
    | zero=>simp only [Tr.get] at h; cases h
    | succ j =>
     simp only [Tr.get] at h
     split at h
     ·rw [Tr.get_nil] at h; cases h
     ·rcases Tr.get_set f .nil _ _ x p h with ⟨h1,h2⟩ | h1
      ·exact .inl ⟨by omega,h2⟩
      ·rw [Tr.get_nil] at h1; cases h1
 | f + 1,.node v l r,i,j,x,p,h=>by
  cases i with
  | zero =>
   simp only [Tr.set] at h
   cases j with
   | zero=>exact .inl ⟨rfl,h⟩
   | succ j=>exact .inr h
  | succ i =>
   simp only [Tr.set] at h
   split at h
   ·rename_i hi
    cases j with
    | zero=>exact .inr h
    | succ j =>
     simp only [Tr.get] at h ⊢
     split at h
     ·rename_i hj
      rcases Tr.get_set f l _ _ x p h with ⟨h1,h2⟩ | h1
      ·exact .inl ⟨by omega,h2⟩
      ·exact .inr (by rw [if_pos hj]; exact h1)
     ·rename_i hj
      exact .inr (by rw [if_neg hj]; exact h)
   ·rename_i hi
    cases j with
    | zero=>exact .inr h
    | succ j =>
     simp only [Tr.get] at h ⊢
     split at h
     ·rename_i hj
      exact .inr (by rw [if_pos hj]; exact h)
     ·rename_i hj
      rcases Tr.get_set f r _ _ x p h with ⟨h1,h2⟩ | h1
      ·exact .inl ⟨by omega,h2⟩
      ·exact .inr (by rw [if_neg hj]; exact h1)
def fu : Nat := 24
def ivR (t : Tr) : Ref → Iv
 | .c n=>some (n,n)
 | .e i=>Tr.get fu t i
def ivK (k : IntKind) (lo hi : Int) : Iv := if k.min ≤ lo ∧ hi ≤ k.max then some (lo,hi) else some (k.min,k.max)
def ivB : Iv := some (0,1)
def ivT (v : Iv) : Option Bool :=
 match v with
 | some (a,b)=>if 0 < a ∨ b < 0 then some true else if a = 0 ∧ b = 0 then some false else none
 | none=>none
def ivOf (b : Bool) : Iv := if b then some (1,1) else some (0,0)
def ivU (v w : Iv) : Iv :=
 match v,w with
 | some (a,b),some (c,d)=>some (min a c,max b d)
 | _,_=>none
def ivBin (op : BinOp) (k : IntKind) (v w : Iv) : Iv :=
 match op with
 | .add=>match v,w with | some (a,b),some (c,d)=>ivK k (a + c) (b + d) | _,_=>some (k.min,k.max)
 | .sub=>match v,w with | some (a,b),some (c,d)=>ivK k (a - d) (b - c) | _,_=>some (k.min,k.max)
 | .mul=>match v,w with
  | some (a,b),some (c,d)=>ivK k (min (min (a * c) (a * d)) (min (b * c) (b * d))) (max (max (a * c) (a * d)) (max (b * c) (b * d)))
  | _,_=>some (k.min,k.max)
 | .quo=>match v,w with
  | some (a,b),some (c,d)=>if c = d ∧ 0 < c then ivK k (a.tdiv c) (b.tdiv c) else ivK k (min (min a 0) (-b)) (max (max b 0) (-a))
  | _,_=>some (k.min,k.max)
 | .rem=>match v,w with
  | some (a,b),some (c,d)=>if 0 < c then (if 0 ≤ a then some (0,min b (d - 1)) else some (-(d - 1),d - 1)) else some (min a 0,max b 0)
  | none,some (c,d)=>if 0 < c then some (-(d - 1),d - 1) else none
  | some (a,b),none=>some (min a 0,max b 0)
  | _,_=>none
 | .and=>match w with
  | some (c,d)=>if c = d ∧ 0 ≤ c ∧ c ≤ k.max then some (0,c) else some (k.min,k.max)
  | none=>some (k.min,k.max)
 | .or=>match v,w with
  | some (a,b),some (c,d)=>if 0 ≤ a ∧ 0 ≤ c ∧ b ≤ k.max ∧ d ≤ k.max then some (max a c,k.max) else some (k.min,k.max)
  | _,_=>some (k.min,k.max)
 | .xor | .andNot=>some (k.min,k.max)
 | .shl=>match v,w with
  | some (a,b),some (c,d)=>if c = d then ivK k (a * 2 ^ (min c.toNat k.bits)) (b * 2 ^ (min c.toNat k.bits)) else if 0 ≤ a ∧ 0 ≤ c ∧ d.toNat ≤ k.bits then ivK k (a * 2 ^ c.toNat) (b * 2 ^ d.toNat) else some (k.min,k.max)
  | _,_=>some (k.min,k.max)
 | .shr=>match v,w with
  | some (a,b),some (c,d)=>if c = d then some (a.fdiv (2 ^ (min c.toNat k.bits)),b.fdiv (2 ^ (min c.toNat k.bits))) else some (min a 0,max b 0)
  | some (a,b),none=>some (min a 0,max b 0)
  | _,_=>none
 | .eql=>match v,w with
  | some (a,b),some (c,d)=>if b < c ∨ d < a then ivOf false else if a = b ∧ c = d ∧ a = c then ivOf true else ivB
  | _,_=>ivB
 | .neq=>match v,w with
  | some (a,b),some (c,d)=>if b < c ∨ d < a then ivOf true else if a = b ∧ c = d ∧ a = c then ivOf false else ivB
  | _,_=>ivB
 | .lss=>match v,w with
  | some (a,b),some (c,d)=>if b < c then ivOf true else if d ≤ a then ivOf false else ivB
  | _,_=>ivB
 | .leq=>match v,w with
  | some (a,b),some (c,d)=>if b ≤ c then ivOf true else if d < a then ivOf false else ivB
  | _,_=>ivB
 | .gtr=>match v,w with
  | some (a,b),some (c,d)=>if d < a then ivOf true else if b ≤ c then ivOf false else ivB
  | _,_=>ivB
 | .geq=>match v,w with
  | some (a,b),some (c,d)=>if d ≤ a then ivOf true else if b < c then ivOf false else ivB
  | _,_=>ivB
def ivAll (t : Tr) : List Ref → Iv
 | []=>none
 | [r]=>ivR t r
 | r :: rs=>ivU (ivR t r) (ivAll t rs)
def ivDf (dom : Nat → Iv) (t : Tr) : Df → Iv
 | .inp n=>dom n
 | .bin o k x y=>ivBin o k (ivR t x) (ivR t y)
 | .wrap k x=>match ivR t x with | some (a,b)=>ivK k a b | none=>some (k.min,k.max)
 | .not x=>match ivT (ivR t x) with | some b=>ivOf !b | none=>ivB
 | .and x y=>match ivT (ivR t x),ivT (ivR t y) with
  | some false,_ | _,some false=>ivOf false
  | some true,some true=>ivOf true
  | _,_=>ivB
 | .or x y=>match ivT (ivR t x),ivT (ivR t y) with
  | some true,_ | _,some true=>ivOf true
  | some false,some false=>ivOf false
  | _,_=>ivB
 | .eqb _ _=>ivB
 | .ite c x y=>match ivT (ivR t c) with
  | some true=>ivR t x
  | some false=>ivR t y
  | none=>ivU (ivR t x) (ivR t y)
 | .sel xs i=>match ivR t i with
  | some (a,b)=>if 0 ≤ a ∧ b < xs.length then ivAll t ((xs.drop a.toNat).take (b.toNat - a.toNat + 1)) else ivU (ivAll t xs) (some (0,0))
  | none=>ivU (ivAll t xs) (some (0,0))
 | .mn x y=>match ivR t x,ivR t y with | some (a,b),some (c,d)=>some (min a c,min b d) | _,_=>none
 | .mx x y=>match ivR t x,ivR t y with | some (a,b),some (c,d)=>some (max a c,max b d) | _,_=>none
 | .fn _ lo hi _=>if lo ≤ hi then some (lo,hi) else none
def ivDefs (dom : Nat → Iv) : Nat → List Df → Tr
 | n + 1,d :: ds=>let t := ivDefs dom n ds; Tr.set fu t n (ivDf dom t d)
 | _,_=>.nil
section
variable {I : Nat → Int} {X : Nat → List Int → Int} {E : Nat → Int} {t : Tr}
theorem wrap_in (k : IntKind) (n : Int) : k.min ≤ k.wrap n ∧ k.wrap n ≤ k.max := by
 cases k <;> simp [IntKind.wrap,IntKind.min,IntKind.max,IntKind.bits,IntKind.signed] <;> omega
theorem wrap_id' {k : IntKind} {n : Int} (h1 : k.min ≤ n) (h2 : n ≤ k.max) : k.wrap n = n := by
 cases k <;> simp [IntKind.wrap,IntKind.min,IntKind.max,IntKind.bits,IntKind.signed] at h1 h2 ⊢ <;> omega
theorem ivK_ok {k : IntKind} {lo hi n : Int} (h1 : lo ≤ n) (h2 : n ≤ hi) : (ivK k lo hi).has (k.wrap n) := by
 unfold ivK
 split
 ·rename_i h
  intro p hp
  injection hp with hp; subst hp
  rw [wrap_id' (by omega) (by omega)]
  exact ⟨h1,h2⟩
 ·intro p hp
  injection hp with hp; subst hp
  exact wrap_in k n
theorem ivFull {k : IntKind} {n : Int} : Iv.has (some (k.min,k.max)) (k.wrap n) := fun p hp=>by
 injection hp with hp; subst hp
 exact wrap_in k n
theorem ivB_ok (b : Bool) : ivB.has (ofB b) := fun p hp=>by
 injection hp with hp; subst hp
 cases b <;> simp [ofB]
theorem ivOf_ok (b : Bool) : (ivOf b).has (ofB b) := fun p hp=>by
 cases b <;> (injection hp with hp; subst hp; simp [ofB])
theorem ivT_ok {v : Iv} {n : Int} {b : Bool} (h : ivT v = some b) (hv : v.has n) : truth n = b := by
 unfold ivT at h
 split at h
 ·rename_i a c
  have := hv (a,c) rfl
  simp only at this
  split at h
  ·rename_i hc
   injection h with h; subst h
   simp only [truth,bne_iff_ne]; omega
  ·split at h
   ·rename_i hc
    injection h with h; subst h
    have : n = 0 := by omega
    rw [this]; rfl
   ·cases h
 ·cases h
theorem ivU_ok {v w : Iv} {n : Int} (h : v.has n ∨ w.has n) : (ivU v w).has n := by
 unfold ivU
 split
 ·rename_i a b c d
  intro p hp
  injection hp with hp; subst hp
  rcases h with h | h
  ·have := h (a,b) rfl; simp only at this ⊢; omega
  ·have := h (c,d) rfl; simp only at this ⊢; omega
 ·intro p hp; cases hp
theorem ivR_ok (ht : ∀ i,(Tr.get fu t i).has (E i)) (r : Ref) : (ivR t r).has (r.val E) := by
 cases r with
 | c n=>intro p hp; injection hp with hp; subst hp; exact ⟨Int.le_refl _,Int.le_refl _⟩
 | e i=>exact ht i
theorem mul_bounds {a b c d x y : Int} (h1 : a ≤ x) (h2 : x ≤ b) (h3 : c ≤ y) (h4 : y ≤ d) :
  min (min (a * c) (a * d)) (min (b * c) (b * d)) ≤ x * y ∧ x * y ≤ max (max (a * c) (a * d)) (max (b * c) (b * d)) := by
 have key : ∀ z : Int,c ≤ z → z ≤ d → min (a * z) (b * z) ≤ x * z ∧ x * z ≤ max (a * z) (b * z) := fun z _ _=>by
  rcases Int.le_total 0 z with hz | hz
  ·have e1 := Int.mul_le_mul_of_nonneg_right h1 hz
   have e2 := Int.mul_le_mul_of_nonneg_right h2 hz
   omega
  ·have e1 := Int.mul_le_mul_of_nonpos_right h1 hz
   have e2 := Int.mul_le_mul_of_nonpos_right h2 hz
   omega
 have key2 : ∀ z : Int,min (z * c) (z * d) ≤ z * y ∧ z * y ≤ max (z * c) (z * d) := fun z=>by
  rcases Int.le_total 0 z with hz | hz
  ·have e1 := Int.mul_le_mul_of_nonneg_left h3 hz
   have e2 := Int.mul_le_mul_of_nonneg_left h4 hz
   omega
  ·have e1 := Int.mul_le_mul_of_nonpos_left hz h3
   have e2 := Int.mul_le_mul_of_nonpos_left hz h4
   omega
 have k1 := key y h3 h4
 have k2 := key2 a
 have k3 := key2 b
 omega
theorem tdiv_abs (x y : Int) : min (min x 0) (-x) ≤ x.tdiv y ∧ x.tdiv y ≤ max (max x 0) (-x) := by
 have h := Int.natAbs_tdiv_le_natAbs x y
 omega
theorem tmod_abs (x y : Int) : min x 0 ≤ x.tmod y ∧ x.tmod y ≤ max x 0 := by
 rcases Int.le_total 0 x with hx | hx
 ·have h1 := Int.tmod_nonneg y hx
  have h2 : x.tmod y ≤ x := by
   by_cases hy : y = 0
   ·subst hy; simp
   ·obtain ⟨m,rfl⟩ := Int.eq_ofNat_of_zero_le hx
    rcases Int.natAbs_eq y with e | e
    ·rw [e,← Int.ofNat_tmod]; have := Nat.mod_le m y.natAbs; omega
    ·rw [e,Int.tmod_neg,← Int.ofNat_tmod]; have := Nat.mod_le m y.natAbs; omega
  omega
 ·have h1 : 0 ≤ (-x).tmod y := Int.tmod_nonneg y (by omega)
  have h2 : (-x).tmod y ≤ -x := by
   obtain ⟨m,hm⟩ := Int.eq_ofNat_of_zero_le (show 0 ≤ -x by omega)
   rw [hm]
   rcases Int.natAbs_eq y with e | e
   ·rw [e,← Int.ofNat_tmod]; have := Nat.mod_le m y.natAbs; omega
   ·rw [e,Int.tmod_neg,← Int.ofNat_tmod]; have := Nat.mod_le m y.natAbs; omega
  rw [Int.neg_tmod] at h1 h2
  omega
theorem tdiv_mono {a b c : Int} (hc : 0 < c) (h : a ≤ b) : a.tdiv c ≤ b.tdiv c := Int.tdiv_le_tdiv hc h
theorem fdiv_abs (x p : Int) (hp : 0 < p) : min x 0 ≤ x.fdiv p ∧ x.fdiv p ≤ max x 0 := by
 rw [Int.fdiv_eq_ediv_of_nonneg _ (Int.le_of_lt hp)]
 rcases Int.le_total 0 x with hx | hx
 ·have h1 := Int.ediv_nonneg hx (Int.le_of_lt hp)
  have h2 : x / p ≤ x := Int.ediv_le_self p hx
  omega
 ·have h1 : x ≤ x / p := by
   rw [Int.le_ediv_iff_mul_le hp]
   have : x * p ≤ x * 1 := Int.mul_le_mul_of_nonpos_left hx (by omega)
   omega
  have h2 : x / p ≤ 0 := by
   have := Int.ediv_le_ediv hp hx
   simpa using this
  omega
theorem fdiv_mono {a b p : Int} (hp : 0 < p) (h : a ≤ b) : a.fdiv p ≤ b.fdiv p := by
 rw [Int.fdiv_eq_ediv_of_nonneg _ (Int.le_of_lt hp),Int.fdiv_eq_ediv_of_nonneg _ (Int.le_of_lt hp)]
 exact Int.ediv_le_ediv hp h
theorem and_bound {k : IntKind} {a c : Int} (h0 : 0 ≤ c) (h1 : c ≤ k.max) : 0 ≤ k.wrap (BitVec.ofInt k.bits a &&& BitVec.ofInt k.bits c).toNat ∧ k.wrap (BitVec.ofInt k.bits a &&& BitVec.ofInt k.bits c).toNat ≤ c := by
 have hc : ((BitVec.ofInt k.bits c).toNat : Int) = c := by
  rw [BitVec.toNat_ofInt]
  have : c % (2 ^ k.bits : Nat) = c := Int.emod_eq_of_lt h0 (by
   cases k <;> simp [IntKind.max,IntKind.bits,IntKind.signed] at h1 ⊢ <;> omega)
  rw [this]
  omega
 have hle : (BitVec.ofInt k.bits a &&& BitVec.ofInt k.bits c).toNat ≤ (BitVec.ofInt k.bits c).toNat := by
  rw [BitVec.toNat_and]
  exact Nat.and_le_right
 have hmin : k.min ≤ 0 := by cases k <;> simp [IntKind.min,IntKind.bits,IntKind.signed]
 rw [wrap_id' (by omega) (by omega)]
 omega
theorem or_bound {k : IntKind} {a c x y : Int} (h0 : 0 ≤ x) (h1 : x ≤ k.max) (h2 : 0 ≤ y) (h3 : y ≤ k.max) (ha : a ≤ x) (hc : c ≤ y) : max a c ≤ k.wrap (BitVec.ofInt k.bits x ||| BitVec.ofInt k.bits y).toNat ∧ k.wrap (BitVec.ofInt k.bits x ||| BitVec.ofInt k.bits y).toNat ≤ k.max := by
 have conv : ∀ z : Int,0 ≤ z → z ≤ k.max → ((BitVec.ofInt k.bits z).toNat : Int) = z := fun z hz hz'=>by
  rw [BitVec.toNat_ofInt]
  have : z % (2 ^ k.bits : Nat) = z := Int.emod_eq_of_lt hz (by
   cases k <;> simp [IntKind.max,IntKind.bits,IntKind.signed] at hz' ⊢ <;> omega)
  rw [this]
  omega
 have e1 := conv x h0 h1
 have e2 := conv y h2 h3
 obtain ⟨m,hm,hmk⟩ : ∃ m : Nat,k.max = 2 ^ m - 1 ∧ True := by
  cases k <;> first | exact ⟨7,by decide,trivial⟩ | exact ⟨8,by decide,trivial⟩ | exact ⟨15,by decide,trivial⟩ | exact ⟨16,by decide,trivial⟩ | exact ⟨31,by decide,trivial⟩ | exact ⟨32,by decide,trivial⟩ | exact ⟨63,by decide,trivial⟩ | exact ⟨64,by decide,trivial⟩
 have hp : ((2 ^ m : Nat) : Int) = 2 ^ m := by push_cast; rfl
 have l1 : (BitVec.ofInt k.bits x).toNat < 2 ^ m := by omega
 have l2 : (BitVec.ofInt k.bits y).toNat < 2 ^ m := by omega
 have hlt : (BitVec.ofInt k.bits x ||| BitVec.ofInt k.bits y).toNat < 2 ^ m := by
  rw [BitVec.toNat_or]; exact Nat.or_lt_two_pow l1 l2
 have g1 : (BitVec.ofInt k.bits x).toNat ≤ (BitVec.ofInt k.bits x ||| BitVec.ofInt k.bits y).toNat := by rw [BitVec.toNat_or]; exact Nat.left_le_or
 have g2 : (BitVec.ofInt k.bits y).toNat ≤ (BitVec.ofInt k.bits x ||| BitVec.ofInt k.bits y).toNat := by rw [BitVec.toNat_or]; exact Nat.right_le_or
 have hmin : k.min ≤ 0 := by cases k <;> simp [IntKind.min,IntKind.bits,IntKind.signed]
 rw [wrap_id' (by omega) (by omega)]
 omega
theorem ivBin_ok {o : BinOp} {k : IntKind} {v w : Iv} {x y : Int} (hv : v.has x) (hw : w.has y) : (ivBin o k v w).has (intSem o k x y) := by
 have pos : ∀ n : Nat,(0 : Int) < 2 ^ n := fun n=>Int.pow_pos (by omega)
 cases o <;> simp only [ivBin,intSem]
 case add =>
  split
  ·rename_i a b c d
   have h1 := hv (a,b) rfl; have h2 := hw (c,d) rfl
   simp only at h1 h2
   exact ivK_ok (by omega) (by omega)
  ·exact ivFull
 case sub =>
  split
  ·rename_i a b c d
   have h1 := hv (a,b) rfl; have h2 := hw (c,d) rfl
   simp only at h1 h2
   exact ivK_ok (by omega) (by omega)
  ·exact ivFull
 case mul =>
  split
  ·rename_i a b c d
   have h1 := hv (a,b) rfl; have h2 := hw (c,d) rfl
   simp only at h1 h2
   have := mul_bounds h1.1 h1.2 h2.1 h2.2
   exact ivK_ok this.1 this.2
  ·exact ivFull
 case quo =>
  split
  ·rename_i a b c d
   have h1 := hv (a,b) rfl; have h2 := hw (c,d) rfl
   simp only at h1 h2
   split
   ·rename_i hc
    have : y = c := by omega
    rw [this]
    exact ivK_ok (tdiv_mono hc.2 h1.1) (tdiv_mono hc.2 h1.2)
   ·have := tdiv_abs x y
    exact ivK_ok (by omega) (by omega)
  ·exact ivFull
 case rem =>
  have lt : ∀ {c d : Int},c ≤ y → y ≤ d → 0 < c → -(d - 1) ≤ x.tmod y ∧ x.tmod y ≤ d - 1 := fun {c d} h1 h2 h3=>by
   have hy : 0 < y := by omega
   have k1 := Int.tmod_lt_of_pos x hy
   have k2 := Int.tmod_lt_of_pos (-x) hy
   rw [Int.neg_tmod] at k2
   omega
  split
  ·rename_i a b c d
   have h1 := hv (a,b) rfl; have h2 := hw (c,d) rfl
   simp only at h1 h2
   have hm := tmod_abs x y
   split
   ·rename_i hc
    have := lt h2.1 h2.2 hc
    split
    ·rename_i ha
     intro p hp; injection hp with hp; subst hp
     have h0 := Int.tmod_nonneg y (show 0 ≤ x by omega)
     simp only; omega
    ·intro p hp; injection hp with hp; subst hp
     exact this
   ·intro p hp; injection hp with hp; subst hp
    simp only; omega
  ·rename_i c d
   have h2 := hw (c,d) rfl
   simp only at h2
   split
   ·rename_i hc
    intro p hp; injection hp with hp; subst hp
    exact lt h2.1 h2.2 hc
   ·intro p hp; cases hp
  ·rename_i a b
   have h1 := hv (a,b) rfl
   simp only at h1
   have hm := tmod_abs x y
   intro p hp; injection hp with hp; subst hp
   simp only; omega
  ·intro p hp; cases hp
 case and =>
  split
  ·rename_i c d
   have h2 := hw (c,d) rfl
   simp only at h2
   split
   ·rename_i hc
    have : y = c := by omega
    rw [this]
    intro p hp; injection hp with hp; subst hp
    exact and_bound hc.2.1 hc.2.2
   ·exact ivFull
  ·exact ivFull
 case or =>
  split
  ·rename_i a b c d
   have h1 := hv (a,b) rfl; have h2 := hw (c,d) rfl
   simp only at h1 h2
   split
   ·rename_i hc
    intro p hp; injection hp with hp; subst hp
    exact or_bound (by omega) (by omega) (by omega) (by omega) (by omega) (by omega)
   ·exact ivFull
  ·exact ivFull
 case xor=>exact ivFull
 case andNot=>exact ivFull
 case shl =>
  split
  ·rename_i a b c d
   have h1 := hv (a,b) rfl; have h2 := hw (c,d) rfl
   simp only at h1 h2
   split
   ·rename_i hc
    have : y = c := by omega
    rw [this]
    exact ivK_ok (Int.mul_le_mul_of_nonneg_right h1.1 (Int.le_of_lt (pos _))) (Int.mul_le_mul_of_nonneg_right h1.2 (Int.le_of_lt (pos _)))
   ·split
    ·rename_i hc
     obtain ⟨c1,c2,c3⟩ := hc
     have hy : min y.toNat k.bits = y.toNat := by omega
     have up : ∀ {m n : Nat},m ≤ n → (2 : Int) ^ m ≤ 2 ^ n := fun {m n} h=>by
      have := Nat.pow_le_pow_right (n := 2) (by omega) h
      exact_mod_cast this
     rw [hy]
     refine ivK_ok (Int.le_trans ?_ (Int.mul_le_mul_of_nonneg_right h1.1 (Int.le_of_lt (pos _)))) (Int.le_trans (Int.mul_le_mul_of_nonneg_right h1.2 (Int.le_of_lt (pos _))) ?_)
     ·exact Int.mul_le_mul_of_nonneg_left (up (by omega)) c1
     ·exact Int.mul_le_mul_of_nonneg_left (up (by omega)) (by omega)
    ·exact ivFull
  ·exact ivFull
 case shr =>
  have hm := fdiv_abs x (2 ^ (min y.toNat k.bits)) (pos _)
  split
  ·rename_i a b c d
   have h1 := hv (a,b) rfl; have h2 := hw (c,d) rfl
   simp only at h1 h2
   split
   ·rename_i hc
    have : y = c := by omega
    rw [this]
    intro p hp; injection hp with hp; subst hp
    exact ⟨fdiv_mono (pos _) h1.1,fdiv_mono (pos _) h1.2⟩
   ·intro p hp; injection hp with hp; subst hp
    simp only; omega
  ·rename_i a b
   have h1 := hv (a,b) rfl
   simp only at h1
   intro p hp; injection hp with hp; subst hp
   simp only; omega
  ·intro p hp; cases hp
 all_goals
  split
  ·rename_i a b c d
   have h1 := hv (a,b) rfl; have h2 := hw (c,d) rfl
   simp only at h1 h2
   split
   ·rename_i hc
    have hb : ∀ {q : Bool},q = true → (ivOf true).has (ofB q) := fun {q} e=>by rw [e]; exact ivOf_ok true
    have hb' : ∀ {q : Bool},q = false → (ivOf false).has (ofB q) := fun {q} e=>by rw [e]; exact ivOf_ok false
    first
     | (refine hb ?_; simp only [bne_iff_ne,decide_eq_true_eq,ge_iff_le,gt_iff_lt,ne_eq]; omega)
     | (refine hb' ?_; simp only [beq_eq_false_iff_ne,ne_eq]; omega)
   ·split
    ·rename_i hc
     have hb : ∀ {q : Bool},q = true → (ivOf true).has (ofB q) := fun {q} e=>by rw [e]; exact ivOf_ok true
     have hb' : ∀ {q : Bool},q = false → (ivOf false).has (ofB q) := fun {q} e=>by rw [e]; exact ivOf_ok false
     first
      | (refine hb ?_; simp only [beq_iff_eq]; omega)
      | (refine hb' ?_; simp only [bne_eq_false_iff_eq,decide_eq_false_iff_not,ge_iff_le,gt_iff_lt]; omega)
    ·exact ivB_ok _
  ·exact ivB_ok _
theorem ivAll_ok (ht : ∀ i,(Tr.get fu t i).has (E i)) : ∀ {rs : List Ref} {j : Nat} {r : Ref},rs[j]? = some r → (ivAll t rs).has (r.val E)
 | [],j,r,h=>by simp at h
 | [q],j,r,h=>by
  cases j with
  | zero=>obtain rfl : q = r := by simpa using h
          exact ivR_ok ht q
  | succ j=>simp at h
 | q :: q2 :: rs,j,r,h=>by
  simp only [ivAll]
  cases j with
  | zero=>obtain rfl : q = r := by simpa using h
          exact ivU_ok (.inl (ivR_ok ht q))
  | succ j=>exact ivU_ok (.inr (ivAll_ok ht (rs := q2 :: rs) (j := j) (by simpa using h)))
theorem ivSel {E : Nat → Int} {t : Tr} (ht : ∀ i,(Tr.get fu t i).has (E i)) {xs : List Ref} {j : Nat} : (ivU (ivAll t xs) (some (0,0))).has ((xs.getD j (.c 0)).val E) := by
 rw [List.getD_eq_getElem?_getD]
 cases hj : xs[j]? with
 | none=>exact ivU_ok (.inr fun p hp=>by injection hp with hp; subst hp; exact ⟨Int.le_refl _,Int.le_refl _⟩)
 | some r=>exact ivU_ok (.inl (ivAll_ok ht hj))
theorem ivDf_ok {dom : Nat → Iv} (hd : ∀ n,(dom n).has (I n)) (ht : ∀ i,(Tr.get fu t i).has (E i)) (d : Df) : (ivDf dom t d).has (d.den I X E) := by
 have r := ivR_ok ht
 cases d <;> simp only [ivDf,Df.den]
 case inp n=>exact hd n
 case bin o k x y=>exact ivBin_ok (r x) (r y)
 case wrap k x =>
  split
  ·rename_i a b h
   have := r x (a,b) h
   exact ivK_ok this.1 this.2
  ·exact ivFull
 case not x =>
  split
  ·rename_i b h
   rw [ivT_ok h (r x)]; exact ivOf_ok _
  ·exact ivB_ok _
 case and x y =>
  split
  ·rename_i h; rw [ivT_ok h (r x)]; exact ivOf_ok false
  ·rename_i h _; rw [ivT_ok h (r y),Bool.and_false]; exact ivOf_ok false
  ·rename_i h1 h2; rw [ivT_ok h1 (r x),ivT_ok h2 (r y)]; exact ivOf_ok true
  ·exact ivB_ok _
 case or x y =>
  split
  ·rename_i h; rw [ivT_ok h (r x)]; exact ivOf_ok true
  ·rename_i h _; rw [ivT_ok h (r y),Bool.or_true]; exact ivOf_ok true
  ·rename_i h1 h2; rw [ivT_ok h1 (r x),ivT_ok h2 (r y)]; exact ivOf_ok false
  ·exact ivB_ok _
 case eqb x y=>exact ivB_ok _
 case ite c x y =>
  split
  ·rename_i h; rw [if_pos (ivT_ok h (r c))]; exact r x
  ·rename_i h; rw [if_neg (by rw [ivT_ok h (r c)]; simp)]; exact r y
  ·split
   ·exact ivU_ok (.inl (r x))
   ·exact ivU_ok (.inr (r y))
 case sel xs i =>
  split
  ·rename_i a b h
   have hi := r i (a,b) h
   simp only at hi
   split
   ·rename_i hc
    have hlt : (i.val E).toNat < xs.length := by omega
    rw [List.getD_eq_getElem?_getD,List.getElem?_eq_getElem hlt]
    refine ivAll_ok ht (j := (i.val E).toNat - a.toNat) ?_
    rw [List.getElem?_take_of_lt (by omega),List.getElem?_drop]
    have : a.toNat + ((i.val E).toNat - a.toNat) = (i.val E).toNat := by omega
    rw [this]
    exact List.getElem?_eq_getElem hlt
   ·exact ivSel ht
  ·exact ivSel ht
 case mn x y =>
  split
  ·rename_i a b c d h1 h2
   have k1 := r x (a,b) h1; have k2 := r y (c,d) h2
   intro p hp; injection hp with hp; subst hp
   simp only at k1 k2 ⊢; omega
  ·intro p hp; cases hp
 case mx x y =>
  split
  ·rename_i a b c d h1 h2
   have k1 := r x (a,b) h1; have k2 := r y (c,d) h2
   intro p hp; injection hp with hp; subst hp
   simp only at k1 k2 ⊢; omega
  ·intro p hp; cases hp
 case fn F lo hi xs =>
  split
  ·rename_i h
   intro p hp; injection hp with hp; subst hp
   unfold clampI
   rw [if_neg (by omega)]
   split
   ·assumption
   ·exact ⟨Int.le_refl _,h⟩
  ·intro p hp; cases hp
theorem ivDefs_ok {dom : Nat → Iv} (hd : ∀ n,(dom n).has (I n)) : ∀ {n : Nat} {ds : List Df},GoodL I X E n ds → ∀ i,(Tr.get fu (ivDefs dom n ds) i).has (E i)
 | 0,[],_,i=>fun p hp=>by
  rw [show ivDefs dom 0 [] = .nil from rfl,Tr.get_nil] at hp; cases hp
 | n + 1,d :: ds,h,i=>fun p hp=>by
  have ih := ivDefs_ok hd h.2
  simp only [ivDefs] at hp
  rcases Tr.get_set fu _ _ _ _ p hp with ⟨rfl,h2⟩ | h2
  ·rw [h.1]
   exact ivDf_ok hd ih d p h2
  ·exact ih i p h2
 | 0,_ :: _,h,_=>h.elim
 | _ + 1,[],h,_=>h.elim
def domI (dom : List (Nat × Int × Int)) (n : Nat) : Iv :=
 match dom.find? (·.1 == n) with
 | some p=>some (p.2.1,p.2.2)
 | none=>none
theorem domI_ok {dom : List (Nat × Int × Int)} (h : InDom dom I) (n : Nat) : (domI dom n).has (I n) := by
 unfold domI
 split
 ·rename_i p hp
  have h1 := h p (List.mem_of_find?_eq_some hp)
  have h2 : p.1 = n := by simpa using List.find?_some hp
  intro q hq
  injection hq with hq; subst hq
  rw [← h2]
  exact h1
 ·intro q hq; cases hq
def cutHi (v : Iv) (n : Int) (i : Nat) : List (Nat × Int × Int) := match v with | some (a,b)=>[(i,a,min b n)] | none=>[]
def cutLo (v : Iv) (n : Int) (i : Nat) : List (Nat × Int × Int) := match v with | some (a,b)=>[(i,max a n,b)] | none=>[]
def upTo (t : Tr) (x y : Ref) (less : Int) : List (Nat × Int × Int) :=
 (match x,ivR t y with | .e i,some (_,d)=>cutHi (ivR t x) (d - less) i | _,_=>[]) ++
 (match y,ivR t x with | .e j,some (a,_)=>cutLo (ivR t y) (a + less) j | _,_=>[])
def notZero (t : Tr) (x : Ref) : List (Nat × Int × Int) :=
 match x with
 | .e i=>match ivR t x with
  | some (a,b)=>if a = 0 then [(i,1,b)] else if b = 0 then [(i,a,-1)] else []
  | none=>[]
 | _=>[]
def backF (t : Tr) (defs : List Df) (nd : Nat) (p : Nat × Int × Int) : List (Nat × Int × Int) :=
 if nd ≤ p.1 then [] else
 match defs[nd - 1 - p.1]? with
 | some (.bin o k x y)=>match o,x,y with
  | .sub,.e a,.c n=>match Tr.get fu t a with
   | some (la,ha)=>if k.min ≤ la - n ∧ ha - n ≤ k.max then [(a,p.2.1 + n,p.2.2 + n)] else []
   | none=>[]
  | _,_,_=>[]
 | _=>[]
def withBack (t : Tr) (defs : List Df) (nd : Nat) (l : List (Nat × Int × Int)) : List (Nat × Int × Int) := l ++ l.flatMap (backF t defs nd)
def facts (t : Tr) (defs : List Df) (nd : Nat) : Nat → Ref → Bool → List (Nat × Int × Int)
 | 0,_,_=>[]
 | _ + 1,.c _,_=>[]
 | f + 1,.e i,want =>
  match defs[nd - 1 - i]? with
  | none=>[]
  | some d=>if nd ≤ i then [] else match d with
   | .and x y=>if want then facts t defs nd f x true ++ facts t defs nd f y true else []
   | .or x y=>if want then [] else facts t defs nd f x false ++ facts t defs nd f y false
   | .not x=>facts t defs nd f x (!want)
   | .ite c x y =>
    if want then (if y = .c 0 then facts t defs nd f c true ++ facts t defs nd f x true else if x = .c 0 then facts t defs nd f c false ++ facts t defs nd f y true else [])
    else (if y = .c 1 then facts t defs nd f c true ++ facts t defs nd f x false else if x = .c 1 then facts t defs nd f c false ++ facts t defs nd f y false else [])
   | .bin o _ x y =>
    withBack t defs nd (match o,want with
    | .lss,true | .geq,false=>upTo t x y 1
    | .leq,true | .gtr,false=>upTo t x y 0
    | .gtr,true | .leq,false=>upTo t y x 1
    | .geq,true | .lss,false=>upTo t y x 0
    | .eql,true | .neq,false=>upTo t x y 0 ++ upTo t y x 0
    | .neq,true | .eql,false=>if y = .c 0 then notZero t x else []
    | _,_=>[])
   | _=>[]
def meetI (v : Iv) (p : Int × Int) : Iv :=
 match v with
 | some (a,b)=>some (max a p.1,min b p.2)
 | none=>some p
def meetAll (i : Nat) : List (Nat × Int × Int) → Iv → Iv
 | [],v=>v
 | (j,p) :: l,v=>if j = i then meetI (meetAll i l v) p else meetAll i l v
def ivDefsA (A : List (Nat × Int × Int)) (dom : Nat → Iv) : Nat → List Df → Tr
 | n + 1,d :: ds=>let t := ivDefsA A dom n ds; Tr.set fu t n (meetAll n A (ivDf dom t d))
 | _,_=>.nil
def Facts (E : Nat → Int) (A : List (Nat × Int × Int)) : Prop := ∀ p ∈ A,p.2.1 ≤ E p.1 ∧ E p.1 ≤ p.2.2
theorem Facts.app {A B : List (Nat × Int × Int)} (h : Facts E A) (h' : Facts E B) : Facts E (A ++ B) := fun p hp=>by
 rcases List.mem_append.1 hp with hp | hp
 ·exact h p hp
 ·exact h' p hp
theorem Facts.nil : Facts E [] := fun p hp=>by cases hp
theorem goodL_get : ∀ {n : Nat} {ds : List Df},GoodL I X E n ds → ∀ {i : Nat} {d : Df},i < n → ds[n - 1 - i]? = some d → E i = d.den I X E
 | 0,[],_,i,d,hi,_=>by omega
 | n + 1,d0 :: ds,h,i,d,hi,hd=>by
  by_cases hin : i = n
  ·subst hin
   have : i + 1 - 1 - i = 0 := by omega
   rw [this] at hd
   obtain rfl : d0 = d := by simpa using hd
   exact h.1
  ·have : n + 1 - 1 - i = (n - 1 - i) + 1 := by omega
   rw [this,List.getElem?_cons_succ] at hd
   exact goodL_get h.2 (by omega) hd
 | 0,_ :: _,h,_,_,_,_=>h.elim
 | _ + 1,[],h,_,_,_,_=>h.elim
theorem upTo_ok (ht : ∀ i,(Tr.get fu t i).has (E i)) {x y : Ref} {less : Int} (h : x.val E + less ≤ y.val E) : Facts E (upTo t x y less) := by
 have rx := ivR_ok ht x
 have ry := ivR_ok ht y
 refine Facts.app ?_ ?_
 ·split
  ·rename_i i c d hy
   have h2 := ry (c,d) hy
   unfold cutHi
   split
   ·rename_i a b hx
    have h1 := rx (a,b) hx
    intro p hp
    rw [List.mem_singleton] at hp; subst hp
    simp only [Ref.val] at h h1 h2 ⊢
    omega
   ·exact Facts.nil
  ·exact Facts.nil
 ·split
  ·rename_i j a b hx
   have h1 := rx (a,b) hx
   unfold cutLo
   split
   ·rename_i c d hy
    have h2 := ry (c,d) hy
    intro p hp
    rw [List.mem_singleton] at hp; subst hp
    simp only [Ref.val] at h h1 h2 ⊢
    omega
   ·exact Facts.nil
  ·exact Facts.nil
theorem notZero_ok (ht : ∀ i,(Tr.get fu t i).has (E i)) {x : Ref} (h : x.val E ≠ 0) : Facts E (notZero t x) := by
 unfold notZero
 split
 ·rename_i i
  have rx := ivR_ok ht (.e i)
  split
  ·rename_i a b hx
   have h1 := rx (a,b) hx
   simp only [Ref.val] at h h1
   split
   ·intro p hp; rw [List.mem_singleton] at hp; subst hp; simp only; omega
   ·split
    ·intro p hp; rw [List.mem_singleton] at hp; subst hp; simp only; omega
    ·exact Facts.nil
  ·exact Facts.nil
 ·exact Facts.nil
theorem truth_c0 : truth ((Ref.c 0).val E) = false := rfl
theorem truth_c1 : truth ((Ref.c 1).val E) = true := rfl
theorem withBack_ok (ht : ∀ i,(Tr.get fu t i).has (E i)) {defs : List Df} {nd : Nat} (hg : GoodL I X E nd defs) {l : List (Nat × Int × Int)} (h : Facts E l) : Facts E (withBack t defs nd l) := by
 refine Facts.app h fun q hq=>?_
 obtain ⟨p,hp,hq⟩ := List.mem_flatMap.1 hq
 have hb := h p hp
 unfold backF at hq
 split at hq
 ·cases hq
 ·rename_i hlt
  split at hq
  ·rename_i o k x y hd
   have he := goodL_get hg (by omega) hd
   split at hq
   ·rename_i a n
    split at hq
    ·rename_i la ha hta
     split at hq
     ·rename_i hr
      rw [List.mem_singleton] at hq
      subst hq
      have hv := ht a _ hta
      simp only [Df.den,intSem,Ref.val] at he
      rw [wrap_id' (by omega) (by omega)] at he
      simp only
      omega
     ·cases hq
    ·cases hq
   ·cases hq
  ·cases hq
theorem facts_ok (ht : ∀ i,(Tr.get fu t i).has (E i)) {defs : List Df} {nd : Nat} (hg : GoodL I X E nd defs) : ∀ (f : Nat) (r : Ref) (want : Bool),truth (r.val E) = want → Facts E (facts t defs nd f r want)
 | 0,_,_,_=>Facts.nil
 | _ + 1,.c _,_,_=>Facts.nil
 | f + 1,.e i,want,h=>by
  have ih := facts_ok ht hg f
  simp only [facts]
  split
  ·exact Facts.nil
  ·rename_i d hd
   split
   ·exact Facts.nil
   ·rename_i hi
    have he := goodL_get hg (by omega) hd
    simp only [Ref.val] at h
    rw [he] at h
    split
    ·rename_i x y
     simp only [Df.den,truth_ofB] at h
     split
     ·rename_i hw
      rw [hw] at h
      simp only [Bool.and_eq_true] at h
      exact (ih x true h.1).app (ih y true h.2)
     ·exact Facts.nil
    ·rename_i x y
     simp only [Df.den,truth_ofB] at h
     split
     ·exact Facts.nil
     ·rename_i hw
      have hw' : want = false := by simpa using hw
      rw [hw'] at h
      simp only [Bool.or_eq_false_iff] at h
      exact (ih x false h.1).app (ih y false h.2)
    ·rename_i x
     simp only [Df.den,truth_ofB] at h
     exact ih x (!want) (by rw [← h]; simp)
    ·rename_i c x y
     simp only [Df.den] at h
     cases hc : truth (c.val E) with
     | true =>
      simp only [hc,if_true] at h
      split
      ·rename_i hw
       rw [hw] at h
       split
       ·exact (ih c true hc).app (ih x true h)
       ·split
        ·rename_i hx; rw [hx,truth_c0] at h; cases h
        ·exact Facts.nil
      ·rename_i hw
       have hw' : want = false := by simpa using hw
       rw [hw'] at h
       split
       ·exact (ih c true hc).app (ih x false h)
       ·split
        ·rename_i hx; rw [hx,truth_c1] at h; cases h
        ·exact Facts.nil
     | false =>
      simp only [hc,Bool.false_eq_true,if_false] at h
      split
      ·rename_i hw
       rw [hw] at h
       split
       ·rename_i hy; rw [hy,truth_c0] at h; cases h
       ·split
        ·exact (ih c false hc).app (ih y true h)
        ·exact Facts.nil
      ·rename_i hw
       have hw' : want = false := by simpa using hw
       rw [hw'] at h
       split
       ·rename_i hy; rw [hy,truth_c1] at h; cases h
       ·split
        ·exact (ih c false hc).app (ih y false h)
        ·exact Facts.nil
    ·rename_i o k x y
     simp only [Df.den] at h
     refine withBack_ok ht hg ?_
     split <;> simp only [intSem,truth_ofB,decide_eq_true_eq,decide_eq_false_iff_not,ge_iff_le,gt_iff_lt,beq_iff_eq,beq_eq_false_iff_ne,bne_iff_ne,bne_eq_false_iff_eq,ne_eq] at h
     ·exact upTo_ok ht (by omega)
     ·exact upTo_ok ht (by omega)
     ·exact upTo_ok ht (by omega)
     ·exact upTo_ok ht (by omega)
     ·exact upTo_ok ht (by omega)
     ·exact upTo_ok ht (by omega)
     ·exact upTo_ok ht (by omega)
     ·exact upTo_ok ht (by omega)
     ·exact (upTo_ok ht (by omega)).app (upTo_ok ht (by omega))
     ·exact (upTo_ok ht (by omega)).app (upTo_ok ht (by omega))
     ·split
      ·rename_i hy
       rw [hy] at h
       exact notZero_ok ht h
      ·exact Facts.nil
     ·split
      ·rename_i hy
       rw [hy] at h
       exact notZero_ok ht h
      ·exact Facts.nil
     ·exact Facts.nil
    ·exact Facts.nil
theorem meetAll_ok {i : Nat} : ∀ {A : List (Nat × Int × Int)} {v : Iv},Facts E A → v.has (E i) → (meetAll i A v).has (E i)
 | [],_,_,h=>h
 | (j,p) :: A,v,hA,h=>by
  have ih := meetAll_ok (i := i) (A := A) (fun q hq=>hA q (List.mem_cons_of_mem _ hq)) h
  simp only [meetAll]
  split
  ·rename_i hj
   have hp := hA (j,p) (by simp)
   rw [← hj] at ih ⊢
   unfold meetI
   split
   ·rename_i a b he
    have := ih (a,b) he
    intro q hq; injection hq with hq; subst hq
    simp only at this hp ⊢; omega
   ·intro q hq; injection hq with hq; subst hq
    exact hp
  ·exact ih
theorem ivDefsA_ok {A : List (Nat × Int × Int)} {dom : Nat → Iv} (hA : Facts E A) (hd : ∀ n,(dom n).has (I n)) : ∀ {n : Nat} {ds : List Df},GoodL I X E n ds → ∀ i,(Tr.get fu (ivDefsA A dom n ds) i).has (E i)
 | 0,[],_,i=>fun p hp=>by
  rw [show ivDefsA A dom 0 [] = .nil from rfl,Tr.get_nil] at hp; cases hp
 | n + 1,d :: ds,h,i=>fun p hp=>by
  have ih := ivDefsA_ok hA hd h.2
  simp only [ivDefsA] at hp
  rcases Tr.get_set fu _ _ _ _ p hp with ⟨rfl,h2⟩ | h2
  ·refine meetAll_ok (i := i) hA ?_ p h2
   rw [h.1]
   exact ivDf_ok hd ih d
  ·exact ih i p h2
 | 0,_ :: _,h,_=>h.elim
 | _ + 1,[],h,_=>h.elim
def dfAt (defs : List Df) (nd i : Nat) : Option Df := if i < nd then defs[nd - 1 - i]? else none
mutual
def tvA (t : Tr) (defs : List Df) (nd : Nat) (asm : List (Nat × Bool)) : Nat → Ref → Option Bool
 | 0,_=>none
 | f + 1,r=>match r with
  | .c n=>some (truth n)
  | .e i=>match asm.find? (fun p=>Nat.beq p.1 i) with
   | some p=>some p.2
   | none=>match dfAt defs nd i with
    | some (.not x)=>(tvA t defs nd asm f x).map (!·)
    | some (.and x y)=>match tvA t defs nd asm f x with
     | some false=>some false
     | some true=>tvA t defs nd asm f y
     | none=>match tvA t defs nd asm f y with
      | some false=>some false
      | _=>none
    | some (.or x y)=>match tvA t defs nd asm f x with
     | some true=>some true
     | some false=>tvA t defs nd asm f y
     | none=>match tvA t defs nd asm f y with
      | some true=>some true
      | _=>none
    | some (.ite c x y)=>match tvA t defs nd asm f c with
     | some true=>tvA t defs nd asm f x
     | some false=>tvA t defs nd asm f y
     | none=>ivT (ivR t (.e i))
    | some (.bin o k x y)=>ivT (ivBin o k (ivR t (rsA t defs nd asm f x)) (ivR t (rsA t defs nd asm f y)))
    | _=>ivT (ivR t (.e i))
def rsA (t : Tr) (defs : List Df) (nd : Nat) (asm : List (Nat × Bool)) : Nat → Ref → Ref
 | 0,r=>r
 | f + 1,r=>match r with
  | .c n=>.c n
  | .e i=>match dfAt defs nd i with
   | some (.ite c x y)=>match tvA t defs nd asm f c with
    | some true=>rsA t defs nd asm f x
    | some false=>rsA t defs nd asm f y
    | none=>.e i
   | _=>.e i
end
def pkA (t : Tr) (defs : List Df) (nd : Nat) (asm : List (Nat × Bool)) : Nat → Ref → Option Nat
 | 0,_=>none
 | f + 1,r=>match r with
  | .c _=>none
  | .e i=>if asm.any (fun p=>Nat.beq p.1 i) then none else match dfAt defs nd i with
   | some (.not x)=>pkA t defs nd asm f x
   | some (.and x y) | some (.or x y) | some (.bin _ _ x y)=>match pkA t defs nd asm f x with
    | some j=>some j
    | none=>pkA t defs nd asm f y
   | some (.ite c x y)=>match tvA t defs nd asm f c with
    | some true=>pkA t defs nd asm f x
    | some false=>pkA t defs nd asm f y
    | none=>match c with
     | .e j=>some j
     | .c _=>none
   | _=>none
def splA (dom : Nat → Iv) (defs : List Df) (nd : Nat) (pc goal : Ref) : Nat → Tr → List (Nat × Int × Int) → List (Nat × Bool) → Bool
 | n,t,A,asm =>
  if tvA t defs nd asm 40 goal == some true || tvA t defs nd asm 40 pc == some false then true else
  match n with
  | 0=>false
  | n + 1=>match pkA t defs nd asm 40 goal with
   | some j =>
    splA dom defs nd pc goal n (ivDefsA (facts t defs nd 40 (.e j) true ++ A) dom nd defs) (facts t defs nd 40 (.e j) true ++ A) ((j,true) :: asm) &&
    splA dom defs nd pc goal n (ivDefsA (facts t defs nd 40 (.e j) false ++ A) dom nd defs) (facts t defs nd 40 (.e j) false ++ A) ((j,false) :: asm)
   | none=>false
theorem dfAt_ok {defs : List Df} {nd i : Nat} {d : Df} (hg : GoodL I X E nd defs) (h : dfAt defs nd i = some d) : E i = d.den I X E := by
 unfold dfAt at h
 split at h
 ·exact goodL_get hg (by assumption) h
 ·cases h
theorem tvA_ok (ht : ∀ i,(Tr.get fu t i).has (E i)) {defs : List Df} {nd : Nat} (hg : GoodL I X E nd defs) {asm : List (Nat × Bool)} (ha : ∀ p ∈ asm,truth (E p.1) = p.2) : ∀ (f : Nat),
  (∀ r b,tvA t defs nd asm f r = some b → truth (r.val E) = b) ∧ ∀ r,(rsA t defs nd asm f r).val E = r.val E
 | 0=>⟨fun r b h=>by simp [tvA] at h,fun r=>by simp [rsA]⟩
 | f + 1=>by
  obtain ⟨ih1,ih2⟩ := tvA_ok ht hg ha f
  refine ⟨fun r b h=>?_,fun r=>?_⟩
  ·cases r with
   | c n=>simp only [tvA] at h; injection h
   | e i =>
    simp only [tvA] at h
    split at h
    ·rename_i p hp
     injection h with h; subst h
     have h1 := ha p (List.mem_of_find?_eq_some hp)
     have h2 : Nat.beq p.1 i = true := by simpa using List.find?_some hp
     rw [Nat.eq_of_beq_eq_true h2] at h1
     exact h1
    ·split at h
     ·rename_i x hd
      have hv := dfAt_ok hg hd
      cases hx : tvA t defs nd asm f x with
      | none=>rw [hx] at h; cases h
      | some c =>
       rw [hx] at h
       have := ih1 x c hx
       simp only [Option.map_some,Option.some.injEq] at h
       show truth (E i) = b
       rw [hv]
       simp only [Df.den,truth_ofB,this]
       exact h
     ·rename_i x y hd
      have hv := dfAt_ok hg hd
      show truth (E i) = b
      rw [hv]
      simp only [Df.den,truth_ofB]
      split at h
      ·rename_i hx
       injection h with h; subst h
       rw [ih1 x _ hx]; rfl
      ·rename_i hx
       rw [ih1 x _ hx,ih1 y _ h]; rfl
      ·split at h
       ·rename_i hy
        injection h with h; subst h
        rw [ih1 y _ hy]; simp
       ·cases h
     ·rename_i x y hd
      have hv := dfAt_ok hg hd
      show truth (E i) = b
      rw [hv]
      simp only [Df.den,truth_ofB]
      split at h
      ·rename_i hx
       injection h with h; subst h
       rw [ih1 x _ hx]; rfl
      ·rename_i hx
       rw [ih1 x _ hx,ih1 y _ h]; rfl
      ·split at h
       ·rename_i hy
        injection h with h; subst h
        rw [ih1 y _ hy]; simp
       ·cases h
     ·rename_i c x y hd
      have hv := dfAt_ok hg hd
      split at h
      ·rename_i hc
       show truth (E i) = b
       rw [hv]
       simp only [Df.den,ih1 c _ hc,if_true]
       exact ih1 x _ h
      ·rename_i hc
       show truth (E i) = b
       rw [hv]
       simp only [Df.den,ih1 c _ hc,Bool.false_eq_true,if_false]
       exact ih1 y _ h
      ·exact ivT_ok h (ivR_ok ht (.e i))
     ·rename_i o k x y hd
      have hv := dfAt_ok hg hd
      refine ivT_ok h ?_
      show Iv.has _ (E i)
      rw [hv]
      simp only [Df.den]
      have rx := ivR_ok ht (rsA t defs nd asm f x)
      have ry := ivR_ok ht (rsA t defs nd asm f y)
      rw [ih2 x] at rx
      rw [ih2 y] at ry
      exact ivBin_ok rx ry
     ·exact ivT_ok h (ivR_ok ht (.e i))
  ·cases r with
   | c n=>simp [rsA]
   | e i =>
    simp only [rsA]
    split
    ·rename_i c x y hd
     have hv := dfAt_ok hg hd
     split
     ·rename_i hc
      show _ = E i
      rw [hv]
      simp only [Df.den,ih1 c _ hc,if_true]
      exact ih2 x
     ·rename_i hc
      show _ = E i
      rw [hv]
      simp only [Df.den,ih1 c _ hc,Bool.false_eq_true,if_false]
      exact ih2 y
     ·rfl
    ·rfl
theorem splA_ok {dom : Nat → Iv} (hd : ∀ n,(dom n).has (I n)) {defs : List Df} {nd : Nat} (hg : GoodL I X E nd defs) {pc goal : Ref} (hp : truth (pc.val E) = true) : ∀ (n : Nat) {t : Tr} {A : List (Nat × Int × Int)} {asm : List (Nat × Bool)},(∀ i,(Tr.get fu t i).has (E i)) → Facts E A → (∀ p ∈ asm,truth (E p.1) = p.2) →
  splA dom defs nd pc goal n t A asm = true → truth (goal.val E) = true
 | n,t,A,asm,ht,hA,ha,h=>by
  obtain ⟨k1,_⟩ := tvA_ok ht hg ha 40
  unfold splA at h
  split at h
  ·rename_i hc
   simp only [Bool.or_eq_true,beq_iff_eq] at hc
   rcases hc with hc | hc
   ·exact k1 _ _ hc
   ·rw [k1 _ _ hc] at hp; cases hp
  ·cases n with
   | zero=>cases h
   | succ n =>
    simp only at h
    split at h
    ·rename_i j _
     simp only [Bool.and_eq_true] at h
     cases hj : truth (E j) with
     | true =>
      have hA1 := (facts_ok ht hg 40 (.e j) true hj).app hA
      exact splA_ok hd hg hp n (ivDefsA_ok hA1 hd hg) hA1 (fun p hpm=>by rcases List.mem_cons.1 hpm with rfl | hpm; exact hj; exact ha p hpm) h.1
     | false =>
      have hA1 := (facts_ok ht hg 40 (.e j) false hj).app hA
      exact splA_ok hd hg hp n (ivDefsA_ok hA1 hd hg) hA1 (fun p hpm=>by rcases List.mem_cons.1 hpm with rfl | hpm; exact hj; exact ha p hpm) h.2
    ·cases h
def oblOkA (dom : Nat → Iv) (t : Tr) (defs : List Df) (nd : Nat) : List (Ref × Ref) → Ref → Tr → Bool
 | [],_,_=>true
 | p :: l,pc,tp =>
  if ivT (ivR t p.2) == some true || ivT (ivR t p.1) == some false then oblOkA dom t defs nd l pc tp
  else if p.1 = pc then (ivT (ivR tp p.2) == some true || splA dom defs nd p.1 p.2 8 tp (facts t defs nd 40 p.1 true) []) && oblOkA dom t defs nd l pc tp
  else
   let tp := ivDefsA (facts t defs nd 40 p.1 true) dom nd defs
   (ivT (ivR tp p.2) == some true || splA dom defs nd p.1 p.2 8 tp (facts t defs nd 40 p.1 true) []) && oblOkA dom t defs nd l p.1 tp
theorem oblOkA_ok {dom : Nat → Iv} (hd : ∀ n,(dom n).has (I n)) (ht : ∀ i,(Tr.get fu t i).has (E i)) {defs : List Df} {nd : Nat} (hg : GoodL I X E nd defs) : ∀ {obl : List (Ref × Ref)} {pc : Ref} {tp : Tr},(truth (pc.val E) = true → ∀ i,(Tr.get fu tp i).has (E i)) → oblOkA dom t defs nd obl pc tp = true →
  ∀ p ∈ obl,truth (p.1.val E) = true → truth (p.2.val E) = true
 | [],_,_,_,_=>fun p hp=>by cases hp
 | q :: l,pc,tp,htp,h=>fun p hp h1=>by
  simp only [oblOkA] at h
  split at h
  ·rename_i hq
   rcases List.mem_cons.1 hp with rfl | hp
   ·simp only [Bool.or_eq_true,beq_iff_eq] at hq
    rcases hq with h2 | h2
    ·exact ivT_ok h2 (ivR_ok ht p.2)
    ·have := ivT_ok h2 (ivR_ok ht p.1)
     rw [this] at h1; cases h1
   ·exact oblOkA_ok hd ht hg htp h p hp h1
  ·split at h
   ·rename_i hq
    simp only [Bool.and_eq_true,Bool.or_eq_true,beq_iff_eq] at h
    rcases List.mem_cons.1 hp with rfl | hp
    ·have htp1 := htp (by rw [← hq]; exact h1)
     rcases h.1 with h0 | h0
     ·exact ivT_ok h0 (ivR_ok htp1 p.2)
     ·exact splA_ok hd hg h1 8 htp1 (facts_ok ht hg 40 p.1 true h1) (fun p hp=>by cases hp) h0
    ·exact oblOkA_ok hd ht hg htp h.2 p hp h1
   ·simp only [Bool.and_eq_true,Bool.or_eq_true,beq_iff_eq] at h
    have htp2 : truth (q.1.val E) = true → ∀ i,(Tr.get fu (ivDefsA (facts t defs nd 40 q.1 true) dom nd defs) i).has (E i) := fun hq=>ivDefsA_ok (facts_ok ht hg 40 q.1 true hq) hd hg
    rcases List.mem_cons.1 hp with rfl | hp
    ·rcases h.1 with h0 | h0
     ·exact ivT_ok h0 (ivR_ok (htp2 h1) p.2)
     ·exact splA_ok hd hg h1 8 (htp2 h1) (facts_ok ht hg 40 p.1 true h1) (fun p hp=>by cases hp) h0
    ·exact oblOkA_ok hd ht hg htp2 h.2 p hp h1
end
structure Lit where
 args : List SV
 k : Nat
 dom : List (Nat × Int × Int)
 out : SV
 ivs : List (Nat × Int × Int)
 tabs : List SB
def lookIv (ivs : List (Nat × Int × Int)) (i : Nat) : Int × Int :=
 match ivs.find? (·.1 == i) with
 | some p=>p.2
 | none=>(1,0)
def runF (r : Option (SV × Mem × Gl)) (i : Nat) (xs : List Int) : Int :=
 match r with
 | some r=>runDefs (ofL xs) X0 r.2.2.defs i
 | none=>0
def Lit.ev (L : Lit) (C : Cx) (d fuel : Nat) (f : FuncId) (nt : Nat) : Option (SV × Mem × Gl) := evFn C d fuel f L.args ⟨L.tabs,nt⟩ (.c 1) (inps L.k)
def Lit.sum (L : Lit) (C : Cx) (d fuel : Nat) (f : FuncId) (nt : Nat) : Sum :=
 ⟨L.args,L.k,L.dom,L.out,runF (L.ev C d fuel f nt),lookIv L.ivs,L.tabs⟩
def Lit.check (L : Lit) (C : Cx) (d fuel : Nat) (f : FuncId) (nt : Nat) : Bool :=
 match L.ev C d fuel f nt with
 | some r =>
  let t := ivDefs (domI L.dom) r.2.2.nd r.2.2.defs
  decide (r.1 = L.out) && wfDefs r.2.2.nd r.2.2.defs && oblOkA (domI L.dom) t r.2.2.defs r.2.2.nd r.2.2.obl (.c 0) .nil && L.ivs.all (fun p=>decide (Tr.get fu t p.1 = some p.2)) &&
   L.tabs.all (fun b=>decide (b ∈ r.2.1.bs) && b.obj.isNone && b.cs.isEmpty && decide (matchLs b.cells b.cells = some []) && decide (b.id < nt)) && decide (L.tabs.Pairwise fun a b=>b.id < a.id)
 | none=>false
theorem Lit.ok {C : Cx} [TyOk C.P C.T] [FnOk C.P C.F] {O : Objs} (hmix : C.P.follows .mixedOrders = true) (hname : ∀ (f : FuncId) (fn : Func),C.P.funcs[f]? = some fn → fn.name ≠ "runtime.NumGoroutine")
  (hctr : ∀ I X E f c,C.ctr f = some c → CtrOk C O I X E f c) {L : Lit} {f : FuncId} {fuel d nt : Nat} (hglob : ∀ gl id,C.glob gl = some id → id < nt) (hck : L.check C d fuel f nt = true) : ∀ I X E,CtrOk C O I X E f (L.sum C d fuel f nt).ctr := by
 unfold Lit.check at hck
 split at hck
 ·rename_i r hev
  obtain ⟨v,m',g1⟩ := r
  simp only [Bool.and_eq_true,decide_eq_true_eq,List.all_eq_true] at hck
  obtain ⟨⟨⟨⟨⟨h0,h1⟩,h2⟩,h5⟩,h3⟩,h4⟩ := hck
  subst h0
  have ht : ∀ I,InDom L.dom I → ∀ i,(Tr.get fu (ivDefs (domI L.dom) g1.nd g1.defs) i).has (runDefs I X0 g1.defs i) := fun I hI=>ivDefs_ok (domI_ok hI) (runDefs_good h1)
  refine Sum.ok hmix hname hctr (L.sum C d fuel f nt) (m' := m') (g1 := g1) hev ⟨h4,fun b hb=>(h3 b hb).2⟩ hglob (fun b hb=>⟨?_,(h3 b hb).1.2⟩) (fun b hb=>(h3 b hb).1.1.1.1) h1 (fun i xs=>?_) (fun I hI=>oblOkA_ok (domI_ok hI) (ht I hI) (runDefs_good h1) (fun h=>by cases h) h2) (fun I hI i _=>?_)
  ·have k1 := (h3 b hb).1.1.1.2
   have k2 := (h3 b hb).1.1.2
   exact ⟨by simpa using k1,by simpa using k2⟩
  ·simp only [Lit.sum,runF,hev]
  ·show clampI (lookIv L.ivs i).1 (lookIv L.ivs i).2 _ = _
   unfold lookIv
   split
   ·rename_i p hp
    have hk : p.1 = i := by simpa using List.find?_some hp
    have := h5 p (List.mem_of_find?_eq_some hp)
    rw [hk] at this
    have hb := ht I hI i p.2 this
    unfold clampI
    simp [hb]
   ·simp [clampI]
 ·cases hck
def tblCtr (l : List (FuncId × Ctr)) (f : FuncId) : Option Ctr := (l.find? (·.1 == f)).map (·.2)
theorem tbl_nil {C : Cx} {O : Objs} (h : C.ctr = tblCtr []) : ∀ I X E f c,C.ctr f = some c → CtrOk C O I X E f c := fun I X E f c hc=>by
 rw [h] at hc; cases hc
theorem tbl_cons {P : Program} {T : Tys} {F : FuncId → Option Func} {gl : Nat → Option Nat} {O : Objs} {l : List (FuncId × Ctr)} {f0 : FuncId} {c0 : Ctr} (h : ∀ I X E f c,tblCtr l f = some c → CtrOk ⟨P,T,F,gl,tblCtr l⟩ O I X E f c) (h0 : ∀ I X E,CtrOk ⟨P,T,F,gl,tblCtr l⟩ O I X E f0 c0) :
  ∀ I X E f c,tblCtr ((f0,c0) :: l) f = some c → CtrOk ⟨P,T,F,gl,tblCtr ((f0,c0) :: l)⟩ O I X E f c := fun I X E f c hc=>by
 have : CtrOk ⟨P,T,F,gl,tblCtr l⟩ O I X E f c := by
  unfold tblCtr at hc
  by_cases hf : f0 = f
  ·subst hf
   simp at hc
   subst hc
   exact h0 I X E
  ·have he : ((f0,c0) :: l).find? (·.1 == f) = l.find? (·.1 == f) := List.find?_cons_of_neg (by simpa using hf)
   rw [he] at hc
   exact h I X E f c hc
 exact this
end Go.Proofs.YtbegodiligmphaaGreatDoor.Sy
namespace Go.Proofs.YtbegodiligmphaaGreatDoor
open Go
namespace Sy
inductive Bt (α : Type) where
 | nil
 | node (v : α) (l r : Bt α)
def Bt.get {α : Type} : Bt α → Nat → Option α
 | .nil,_=>none
 | .node v l r,i=>match i with
  | 0=>some v
  | i + 1=>if i % 2 = 0 then l.get (i / 2) else r.get (i / 2)
def Bt.All {α : Type} (Q : Nat → α → Prop) : Bt α → Nat → Nat → Prop
 | .nil,_,_=>True
 | .node v l r,a,b=>Q a v ∧ l.All Q (a + b) (2 * b) ∧ r.All Q (a + 2 * b) (2 * b)
theorem Bt.all_nil {α : Type} {Q : Nat → α → Prop} {a b : Nat} : (Bt.nil : Bt α).All Q a b := trivial
theorem Bt.all_node {α : Type} {Q : Nat → α → Prop} {v : α} {l r : Bt α} (a b c d e : Nat) (h : Q a v) (hl : l.All Q c e) (hr : r.All Q d e) (hc : a + b = c) (hd : a + 2 * b = d) (he : 2 * b = e) : (Bt.node v l r).All Q a b := by
 subst hc; subst hd; subst he
 exact ⟨h,hl,hr⟩
theorem Bt.all_get {α : Type} {Q : Nat → α → Prop} : ∀ {t : Bt α} {a b : Nat},t.All Q a b → ∀ i x,t.get i = some x → Q (a + b * i) x
 | .nil,_,_,_,_,_,h=>by cases h
 | .node v l r,a,b,ha,i,x,h=>by
  cases i with
  | zero =>
   simp only [Bt.get] at h
   injection h with h; subst h
   exact ha.1
  | succ i =>
   simp only [Bt.get] at h
   split at h
   ·rename_i hi
    have := Bt.all_get ha.2.1 _ _ h
    have e : a + b + 2 * b * (i / 2) = a + b * (i + 1) := by
     obtain ⟨j,rfl⟩ : ∃ j,i = 2 * j := ⟨i / 2,by omega⟩
     rw [Nat.mul_div_cancel_left _ (by omega),Nat.mul_add,Nat.mul_comm 2 b,Nat.mul_assoc]
     omega
    rw [e] at this
    exact this
   ·rename_i hi
    have := Bt.all_get ha.2.2 _ _ h
    have e : a + 2 * b + 2 * b * (i / 2) = a + b * (i + 1) := by
     obtain ⟨j,rfl⟩ : ∃ j,i = 2 * j + 1 := ⟨i / 2,by omega⟩
     have : (2 * j + 1) / 2 = j := by omega
     rw [this,Nat.mul_add,Nat.mul_add,Nat.mul_comm 2 b,Nat.mul_assoc]
     omega
    rw [e] at this
    exact this
theorem Bt.all_get' {α : Type} {Q : Nat → α → Prop} {t : Bt α} (h : t.All Q 0 1) (i : Nat) (x : α) (hx : t.get i = some x) : Q i x := by
 have := Bt.all_get h i x hx
 rwa [Nat.zero_add,Nat.one_mul] at this
theorem TyOk.of {P : Program} {t : Bt TyI} (h : t.All (fun i x=>P.underlying i = some x.under ∧ P.info? i = some x.info) 0 1) : TyOk P t.get := ⟨fun i x hx=>Bt.all_get' h i x hx⟩
theorem FnOk.of {P : Program} {t : Bt Func} (h : t.All (fun i x=>P.funcs[i]? = some x) 0 1) : FnOk P t.get := ⟨fun i x hx=>Bt.all_get' h i x hx⟩
end Sy
end Go.Proofs.YtbegodiligmphaaGreatDoor
namespace Go.Proofs.YtbegodiligmphaaGreatDoor.Sy
open Go
abbrev tn (d t : TypeInfo) (l r : Bt TyI) : Bt TyI := .node ⟨d.desc,t⟩ l r
abbrev tl (d t : TypeInfo) : Bt TyI := .node ⟨d.desc,t⟩ .nil .nil
abbrev fl (f : Func) : Bt Func := .node f .nil .nil
theorem bA {α : Type} {Q : Nat → α → Prop} {v : α} {l r : Bt α} {a b : Nat} (h : Q a v) (hl : l.All Q (a + b) (2 * b)) (hr : r.All Q (a + 2 * b) (2 * b)) : (Bt.node v l r).All Q a b := ⟨h,hl,hr⟩
theorem bL {α : Type} {Q : Nat → α → Prop} {v : α} {a b : Nat} (h : Q a v) : (Bt.node v .nil .nil).All Q a b := ⟨h,trivial,trivial⟩
end Go.Proofs.YtbegodiligmphaaGreatDoor.Sy
namespace Go.Proofs.YtbegodiligmphaaGreatDoor.Sy
open Go
section
open Go.Proofs.Tryz
noncomputable def tyTree : Bt TyI := (tn t0 t0 (tn t1 t1 (tn t3 t3 (tn t7 t7 (tn t15 t15 (tn t31 t31 (tn t63 t63 (tn t126 t127 (tl t255 t255) (tl t383 t383)) (tn t190 t191 (tl t319 t319) .nil)) (tn t95 t95 (tn t159 t159 (tl t287 t287) (tl t415 t415)) (tn t223 t223 (tl t351 t351) .nil))) (tn t47 t47 (tn t79 t79 (tn t143 t143 (tl t271 t271) (tl t399 t399)) (tn t207 t207 (tl t335 t335) .nil)) (tn t111 t111 (tn t175 t175 (tl t303 t303) .nil) (tn t239 t239 (tl t367 t367) .nil)))) (tn t22 t23 (tn t38 t39 (tn t71 t71 (tn t135 t135 (tl t263 t263) (tl t391 t391)) (tn t199 t199 (tl t327 t327) .nil)) (tn t103 t103 (tn t167 t167 (tl t295 t295) (tl t423 t423)) (tn t230 t231 (tl t359 t359) .nil))) (tn t54 t55 (tn t87 t87 (tn t151 t151 (tl t279 t279) (tl t407 t407)) (tn t215 t215 (tl t343 t343) .nil)) (tn t119 t119 (tn t182 t183 (tl t310 t311) .nil) (tn t247 t247 (tl t375 t375) .nil))))) (tn t9 t11 (tn t18 t19 (tn t35 t35 (tn t67 t67 (tn t131 t131 (tl t259 t259) (tl t387 t387)) (tn t195 t195 (tl t323 t323) .nil)) (tn t99 t99 (tn t163 t163 (tl t291 t291) (tl t418 t419)) (tn t227 t227 (tl t355 t355) .nil))) (tn t51 t51 (tn t83 t83 (tn t147 t147 (tl t275 t275) (tl t403 t403)) (tn t211 t211 (tl t339 t339) .nil)) (tn t115 t115 (tn t179 t179 (tl t307 t307) .nil) (tn t243 t243 (tl t370 t371) .nil)))) (tn t26 t27 (tn t43 t43 (tn t75 t75 (tn t139 t139 (tl t267 t267) (tl t395 t395)) (tn t203 t203 (tl t331 t331) .nil)) (tn t107 t107 (tn t171 t171 (tl t298 t299) (tl t426 t427)) (tn t235 t235 (tl t363 t363) .nil))) (tn t59 t59 (tn t91 t91 (tn t154 t155 (tl t283 t283) (tl t411 t411)) (tn t219 t219 (tl t347 t347) .nil)) (tn t123 t123 (tn t186 t187 (tl t315 t315) .nil) (tn t251 t251 (tl t379 t379) .nil)))))) (tn t5 t5 (tn t9 t9 (tn t17 t17 (tn t33 t33 (tn t64 t65 (tn t129 t129 (tl t257 t257) (tl t385 t385)) (tn t193 t193 (tl t321 t321) .nil)) (tn t97 t97 (tn t161 t161 (tl t288 t289) (tl t417 t417)) (tn t225 t225 (tl t353 t353) .nil))) (tn t48 t49 (tn t81 t81 (tn t145 t145 (tl t273 t273) (tl t401 t401)) (tn t209 t209 (tl t337 t337) .nil)) (tn t113 t113 (tn t177 t177 (tl t305 t305) .nil) (tn t241 t241 (tl t368 t369) .nil)))) (tn t24 t25 (tn t41 t41 (tn t73 t73 (tn t137 t137 (tl t265 t265) (tl t393 t393)) (tn t201 t201 (tl t329 t329) .nil)) (tn t104 t105 (tn t169 t169 (tl t297 t297) (tl t21 t425)) (tn t233 t233 (tl t361 t361) .nil))) (tn t57 t57 (tn t88 t89 (tn t153 t153 (tl t280 t281) (tl t409 t409)) (tn t216 t217 (tl t345 t345) .nil)) (tn t121 t121 (tn t184 t185 (tl t312 t313) .nil) (tn t248 t249 (tl t377 t377) .nil))))) (tn t13 t13 (tn t21 t21 (tn t37 t37 (tn t69 t69 (tn t132 t133 (tl t261 t261) (tl t389 t389)) (tn t197 t197 (tl t325 t325) .nil)) (tn t101 t101 (tn t165 t165 (tl t292 t293) (tl t5 t421)) (tn t229 t229 (tl t357 t357) .nil))) (tn t53 t53 (tn t85 t85 (tn t149 t149 (tl t277 t277) (tl t405 t405)) (tn t213 t213 (tl t341 t341) .nil)) (tn t117 t117 (tn t181 t181 (tl t309 t309) .nil) (tn t245 t245 (tl t373 t373) .nil)))) (tn t29 t29 (tn t45 t45 (tn t77 t77 (tn t141 t141 (tl t269 t269) (tl t397 t397)) (tn t205 t205 (tl t333 t333) .nil)) (tn t109 t109 (tn t173 t173 (tl t301 t301) .nil) (tn t237 t237 (tl t365 t365) .nil))) (tn t61 t61 (tn t93 t93 (tn t157 t157 (tl t285 t285) (tl t413 t413)) (tn t221 t221 (tl t349 t349) .nil)) (tn t125 t125 (tn t188 t189 (tl t317 t317) .nil) (tn t253 t253 (tl t381 t381) .nil))))))) (tn t2 t2 (tn t4 t4 (tn t7 t8 (tn t16 t16 (tn t31 t32 (tn t64 t64 (tn t128 t128 (tl t256 t256) (tl t384 t384)) (tn t192 t192 (tl t320 t320) .nil)) (tn t96 t96 (tn t159 t160 (tl t288 t288) (tl t415 t416)) (tn t224 t224 (tl t352 t352) .nil))) (tn t48 t48 (tn t79 t80 (tn t144 t144 (tl t272 t272) (tl t400 t400)) (tn t208 t208 (tl t336 t336) .nil)) (tn t111 t112 (tn t175 t176 (tl t304 t304) .nil) (tn t240 t240 (tl t368 t368) .nil)))) (tn t24 t24 (tn t40 t40 (tn t72 t72 (tn t135 t136 (tl t264 t264) (tl t392 t392)) (tn t200 t200 (tl t328 t328) .nil)) (tn t104 t104 (tn t167 t168 (tl t296 t296) (tl t21 t424)) (tn t232 t232 (tl t360 t360) .nil))) (tn t56 t56 (tn t88 t88 (tn t152 t152 (tl t280 t280) (tl t408 t408)) (tn t216 t216 (tl t344 t344) .nil)) (tn t120 t120 (tn t184 t184 (tl t312 t312) .nil) (tn t248 t248 (tl t376 t376) .nil))))) (tn t12 t12 (tn t20 t20 (tn t35 t36 (tn t68 t68 (tn t132 t132 (tl t260 t260) (tl t388 t388)) (tn t196 t196 (tl t324 t324) .nil)) (tn t100 t100 (tn t163 t164 (tl t292 t292) (tl t5 t420)) (tn t228 t228 (tl t356 t356) .nil))) (tn t52 t52 (tn t83 t84 (tn t148 t148 (tl t275 t276) (tl t404 t404)) (tn t212 t212 (tl t340 t340) .nil)) (tn t3 t116 (tn t179 t180 (tl t308 t308) .nil) (tn t244 t244 (tl t372 t372) .nil)))) (tn t28 t28 (tn t43 t44 (tn t75 t76 (tn t140 t140 (tl t268 t268) (tl t395 t396)) (tn t204 t204 (tl t332 t332) .nil)) (tn t108 t108 (tn t171 t172 (tl t300 t300) (tl t428 t428)) (tn t236 t236 (tl t364 t364) .nil))) (tn t60 t60 (tn t91 t92 (tn t156 t156 (tl t284 t284) (tl t412 t412)) (tn t220 t220 (tl t348 t348) .nil)) (tn t124 t124 (tn t188 t188 (tl t316 t316) .nil) (tn t252 t252 (tl t380 t380) .nil)))))) (tn t5 t6 (tn t9 t10 (tn t18 t18 (tn t33 t34 (tn t66 t66 (tn t130 t130 (tl t258 t258) (tl t386 t386)) (tn t194 t194 (tl t322 t322) .nil)) (tn t98 t98 (tn t162 t162 (tl t290 t290) (tl t418 t418)) (tn t226 t226 (tl t354 t354) .nil))) (tn t50 t50 (tn t81 t82 (tn t146 t146 (tl t274 t274) (tl t402 t402)) (tn t210 t210 (tl t338 t338) .nil)) (tn t114 t114 (tn t177 t178 (tl t305 t306) .nil) (tn t242 t242 (tl t370 t370) .nil)))) (tn t26 t26 (tn t41 t42 (tn t74 t74 (tn t137 t138 (tl t265 t266) (tl t394 t394)) (tn t202 t202 (tl t330 t330) .nil)) (tn t106 t106 (tn t169 t170 (tl t298 t298) (tl t426 t426)) (tn t234 t234 (tl t362 t362) .nil))) (tn t58 t58 (tn t90 t90 (tn t154 t154 (tl t282 t282) (tl t410 t410)) (tn t218 t218 (tl t345 t346) .nil)) (tn t122 t122 (tn t186 t186 (tl t314 t314) .nil) (tn t250 t250 (tl t378 t378) .nil))))) (tn t13 t14 (tn t22 t22 (tn t38 t38 (tn t70 t70 (tn t134 t134 (tl t262 t262) (tl t390 t390)) (tn t198 t198 (tl t326 t326) .nil)) (tn t102 t102 (tn t166 t166 (tl t294 t294) (tl t422 t422)) (tn t230 t230 (tl t358 t358) .nil))) (tn t54 t54 (tn t85 t86 (tn t150 t150 (tl t278 t278) (tl t406 t406)) (tn t214 t214 (tl t342 t342) .nil)) (tn t118 t118 (tn t182 t182 (tl t310 t310) .nil) (tn t246 t246 (tl t374 t374) .nil)))) (tn t29 t30 (tn t45 t46 (tn t78 t78 (tn t142 t142 (tl t270 t270) (tl t398 t398)) (tn t206 t206 (tl t334 t334) .nil)) (tn t110 t110 (tn t173 t174 (tl t301 t302) .nil) (tn t237 t238 (tl t366 t366) .nil))) (tn t62 t62 (tn t94 t94 (tn t158 t158 (tl t286 t286) (tl t414 t414)) (tn t221 t222 (tl t350 t350) .nil)) (tn t126 t126 (tn t190 t190 (tl t318 t318) .nil) (tn t254 t254 (tl t382 t382) .nil))))))))
noncomputable def fnTree : Bt Func := (.node f0 (.node f1 (.node f3 (.node f7 (.node f15 (.node f31 (.node f63 (.node f127 (fl f255) .nil) (.node f191 (fl f319) .nil)) (.node f95 (.node f159 (fl f287) .nil) (fl f223))) (.node f47 (.node f79 (.node f143 (fl f271) .nil) (fl f207)) (.node f111 (.node f175 (fl f303) .nil) (fl f239)))) (.node f23 (.node f39 (.node f71 (.node f135 (fl f263) .nil) (fl f199)) (.node f103 (.node f167 (fl f295) .nil) (fl f231))) (.node f55 (.node f87 (.node f151 (fl f279) .nil) (fl f215)) (.node f119 (.node f183 (fl f311) .nil) (fl f247))))) (.node f11 (.node f19 (.node f35 (.node f67 (.node f131 (fl f259) .nil) (.node f195 (fl f323) .nil)) (.node f99 (.node f163 (fl f291) .nil) (fl f227))) (.node f51 (.node f83 (.node f147 (fl f275) .nil) (fl f211)) (.node f115 (.node f179 (fl f307) .nil) (fl f243)))) (.node f27 (.node f43 (.node f75 (.node f139 (fl f267) .nil) (fl f203)) (.node f107 (.node f171 (fl f299) .nil) (fl f235))) (.node f59 (.node f91 (.node f155 (fl f283) .nil) (fl f219)) (.node f123 (.node f187 (fl f315) .nil) (fl f251)))))) (.node f5 (.node f9 (.node f17 (.node f33 (.node f65 (.node f129 (fl f257) .nil) (.node f193 (fl f321) .nil)) (.node f97 (.node f161 (fl f289) .nil) (fl f225))) (.node f49 (.node f81 (.node f145 (fl f273) .nil) (fl f209)) (.node f113 (.node f177 (fl f305) .nil) (fl f241)))) (.node f25 (.node f41 (.node f73 (.node f137 (fl f265) .nil) (fl f201)) (.node f105 (.node f169 (fl f297) .nil) (fl f233))) (.node f57 (.node f89 (.node f153 (fl f281) .nil) (fl f217)) (.node f121 (.node f185 (fl f313) .nil) (fl f249))))) (.node f13 (.node f21 (.node f37 (.node f69 (.node f133 (fl f261) .nil) (.node f197 (fl f325) .nil)) (.node f101 (.node f165 (fl f293) .nil) (fl f229))) (.node f53 (.node f85 (.node f149 (fl f277) .nil) (fl f213)) (.node f117 (.node f181 (fl f309) .nil) (fl f245)))) (.node f29 (.node f45 (.node f77 (.node f141 (fl f269) .nil) (fl f205)) (.node f109 (.node f173 (fl f301) .nil) (fl f237))) (.node f61 (.node f93 (.node f157 (fl f285) .nil) (fl f221)) (.node f125 (.node f189 (fl f317) .nil) (fl f253))))))) (.node f2 (.node f4 (.node f8 (.node f16 (.node f32 (.node f64 (.node f128 (fl f256) .nil) (.node f192 (fl f320) .nil)) (.node f96 (.node f160 (fl f288) .nil) (fl f224))) (.node f48 (.node f80 (.node f144 (fl f272) .nil) (fl f208)) (.node f112 (.node f176 (fl f304) .nil) (fl f240)))) (.node f24 (.node f40 (.node f72 (.node f136 (fl f264) .nil) (fl f200)) (.node f104 (.node f168 (fl f296) .nil) (fl f232))) (.node f56 (.node f88 (.node f152 (fl f280) .nil) (fl f216)) (.node f120 (.node f184 (fl f312) .nil) (fl f248))))) (.node f12 (.node f20 (.node f36 (.node f68 (.node f132 (fl f260) .nil) (.node f196 (fl f324) .nil)) (.node f100 (.node f164 (fl f292) .nil) (fl f228))) (.node f52 (.node f84 (.node f148 (fl f276) .nil) (fl f212)) (.node f116 (.node f180 (fl f308) .nil) (fl f244)))) (.node f28 (.node f44 (.node f76 (.node f140 (fl f268) .nil) (fl f204)) (.node f108 (.node f172 (fl f300) .nil) (fl f236))) (.node f60 (.node f92 (.node f156 (fl f284) .nil) (fl f220)) (.node f124 (.node f188 (fl f316) .nil) (fl f252)))))) (.node f6 (.node f10 (.node f18 (.node f34 (.node f66 (.node f130 (fl f258) .nil) (.node f194 (fl f322) .nil)) (.node f98 (.node f162 (fl f290) .nil) (fl f226))) (.node f50 (.node f82 (.node f146 (fl f274) .nil) (fl f210)) (.node f114 (.node f178 (fl f306) .nil) (fl f242)))) (.node f26 (.node f42 (.node f74 (.node f138 (fl f266) .nil) (fl f202)) (.node f106 (.node f170 (fl f298) .nil) (fl f234))) (.node f58 (.node f90 (.node f154 (fl f282) .nil) (fl f218)) (.node f122 (.node f186 (fl f314) .nil) (fl f250))))) (.node f14 (.node f22 (.node f38 (.node f70 (.node f134 (fl f262) .nil) (fl f198)) (.node f102 (.node f166 (fl f294) .nil) (fl f230))) (.node f54 (.node f86 (.node f150 (fl f278) .nil) (fl f214)) (.node f118 (.node f182 (fl f310) .nil) (fl f246)))) (.node f30 (.node f46 (.node f78 (.node f142 (fl f270) .nil) (fl f206)) (.node f110 (.node f174 (fl f302) .nil) (fl f238))) (.node f62 (.node f94 (.node f158 (fl f286) .nil) (fl f222)) (.node f126 (.node f190 (fl f318) .nil) (fl f254))))))))
set_option maxRecDepth 100000
theorem tyTree_ok : TyOk Tryz.prog tyTree.get := TyOk.of (bA ⟨underlying0,type0⟩ (bA ⟨underlying1,type1⟩ (bA ⟨underlying3,type3⟩ (bA ⟨underlying7,type7⟩ (bA ⟨underlying15,type15⟩ (bA ⟨underlying31,type31⟩ (bA ⟨underlying63,type63⟩ (bA ⟨underlying127,type127⟩ (bL ⟨underlying255,type255⟩) (bL ⟨underlying383,type383⟩)) (bA ⟨underlying191,type191⟩ (bL ⟨underlying319,type319⟩) trivial)) (bA ⟨underlying95,type95⟩ (bA ⟨underlying159,type159⟩ (bL ⟨underlying287,type287⟩) (bL ⟨underlying415,type415⟩)) (bA ⟨underlying223,type223⟩ (bL ⟨underlying351,type351⟩) trivial))) (bA ⟨underlying47,type47⟩ (bA ⟨underlying79,type79⟩ (bA ⟨underlying143,type143⟩ (bL ⟨underlying271,type271⟩) (bL ⟨underlying399,type399⟩)) (bA ⟨underlying207,type207⟩ (bL ⟨underlying335,type335⟩) trivial)) (bA ⟨underlying111,type111⟩ (bA ⟨underlying175,type175⟩ (bL ⟨underlying303,type303⟩) trivial) (bA ⟨underlying239,type239⟩ (bL ⟨underlying367,type367⟩) trivial)))) (bA ⟨underlying23,type23⟩ (bA ⟨underlying39,type39⟩ (bA ⟨underlying71,type71⟩ (bA ⟨underlying135,type135⟩ (bL ⟨underlying263,type263⟩) (bL ⟨underlying391,type391⟩)) (bA ⟨underlying199,type199⟩ (bL ⟨underlying327,type327⟩) trivial)) (bA ⟨underlying103,type103⟩ (bA ⟨underlying167,type167⟩ (bL ⟨underlying295,type295⟩) (bL ⟨underlying423,type423⟩)) (bA ⟨underlying231,type231⟩ (bL ⟨underlying359,type359⟩) trivial))) (bA ⟨underlying55,type55⟩ (bA ⟨underlying87,type87⟩ (bA ⟨underlying151,type151⟩ (bL ⟨underlying279,type279⟩) (bL ⟨underlying407,type407⟩)) (bA ⟨underlying215,type215⟩ (bL ⟨underlying343,type343⟩) trivial)) (bA ⟨underlying119,type119⟩ (bA ⟨underlying183,type183⟩ (bL ⟨underlying311,type311⟩) trivial) (bA ⟨underlying247,type247⟩ (bL ⟨underlying375,type375⟩) trivial))))) (bA ⟨underlying11,type11⟩ (bA ⟨underlying19,type19⟩ (bA ⟨underlying35,type35⟩ (bA ⟨underlying67,type67⟩ (bA ⟨underlying131,type131⟩ (bL ⟨underlying259,type259⟩) (bL ⟨underlying387,type387⟩)) (bA ⟨underlying195,type195⟩ (bL ⟨underlying323,type323⟩) trivial)) (bA ⟨underlying99,type99⟩ (bA ⟨underlying163,type163⟩ (bL ⟨underlying291,type291⟩) (bL ⟨underlying419,type419⟩)) (bA ⟨underlying227,type227⟩ (bL ⟨underlying355,type355⟩) trivial))) (bA ⟨underlying51,type51⟩ (bA ⟨underlying83,type83⟩ (bA ⟨underlying147,type147⟩ (bL ⟨underlying275,type275⟩) (bL ⟨underlying403,type403⟩)) (bA ⟨underlying211,type211⟩ (bL ⟨underlying339,type339⟩) trivial)) (bA ⟨underlying115,type115⟩ (bA ⟨underlying179,type179⟩ (bL ⟨underlying307,type307⟩) trivial) (bA ⟨underlying243,type243⟩ (bL ⟨underlying371,type371⟩) trivial)))) (bA ⟨underlying27,type27⟩ (bA ⟨underlying43,type43⟩ (bA ⟨underlying75,type75⟩ (bA ⟨underlying139,type139⟩ (bL ⟨underlying267,type267⟩) (bL ⟨underlying395,type395⟩)) (bA ⟨underlying203,type203⟩ (bL ⟨underlying331,type331⟩) trivial)) (bA ⟨underlying107,type107⟩ (bA ⟨underlying171,type171⟩ (bL ⟨underlying299,type299⟩) (bL ⟨underlying427,type427⟩)) (bA ⟨underlying235,type235⟩ (bL ⟨underlying363,type363⟩) trivial))) (bA ⟨underlying59,type59⟩ (bA ⟨underlying91,type91⟩ (bA ⟨underlying155,type155⟩ (bL ⟨underlying283,type283⟩) (bL ⟨underlying411,type411⟩)) (bA ⟨underlying219,type219⟩ (bL ⟨underlying347,type347⟩) trivial)) (bA ⟨underlying123,type123⟩ (bA ⟨underlying187,type187⟩ (bL ⟨underlying315,type315⟩) trivial) (bA ⟨underlying251,type251⟩ (bL ⟨underlying379,type379⟩) trivial)))))) (bA ⟨underlying5,type5⟩ (bA ⟨underlying9,type9⟩ (bA ⟨underlying17,type17⟩ (bA ⟨underlying33,type33⟩ (bA ⟨underlying65,type65⟩ (bA ⟨underlying129,type129⟩ (bL ⟨underlying257,type257⟩) (bL ⟨underlying385,type385⟩)) (bA ⟨underlying193,type193⟩ (bL ⟨underlying321,type321⟩) trivial)) (bA ⟨underlying97,type97⟩ (bA ⟨underlying161,type161⟩ (bL ⟨underlying289,type289⟩) (bL ⟨underlying417,type417⟩)) (bA ⟨underlying225,type225⟩ (bL ⟨underlying353,type353⟩) trivial))) (bA ⟨underlying49,type49⟩ (bA ⟨underlying81,type81⟩ (bA ⟨underlying145,type145⟩ (bL ⟨underlying273,type273⟩) (bL ⟨underlying401,type401⟩)) (bA ⟨underlying209,type209⟩ (bL ⟨underlying337,type337⟩) trivial)) (bA ⟨underlying113,type113⟩ (bA ⟨underlying177,type177⟩ (bL ⟨underlying305,type305⟩) trivial) (bA ⟨underlying241,type241⟩ (bL ⟨underlying369,type369⟩) trivial)))) (bA ⟨underlying25,type25⟩ (bA ⟨underlying41,type41⟩ (bA ⟨underlying73,type73⟩ (bA ⟨underlying137,type137⟩ (bL ⟨underlying265,type265⟩) (bL ⟨underlying393,type393⟩)) (bA ⟨underlying201,type201⟩ (bL ⟨underlying329,type329⟩) trivial)) (bA ⟨underlying105,type105⟩ (bA ⟨underlying169,type169⟩ (bL ⟨underlying297,type297⟩) (bL ⟨underlying425,type425⟩)) (bA ⟨underlying233,type233⟩ (bL ⟨underlying361,type361⟩) trivial))) (bA ⟨underlying57,type57⟩ (bA ⟨underlying89,type89⟩ (bA ⟨underlying153,type153⟩ (bL ⟨underlying281,type281⟩) (bL ⟨underlying409,type409⟩)) (bA ⟨underlying217,type217⟩ (bL ⟨underlying345,type345⟩) trivial)) (bA ⟨underlying121,type121⟩ (bA ⟨underlying185,type185⟩ (bL ⟨underlying313,type313⟩) trivial) (bA ⟨underlying249,type249⟩ (bL ⟨underlying377,type377⟩) trivial))))) (bA ⟨underlying13,type13⟩ (bA ⟨underlying21,type21⟩ (bA ⟨underlying37,type37⟩ (bA ⟨underlying69,type69⟩ (bA ⟨underlying133,type133⟩ (bL ⟨underlying261,type261⟩) (bL ⟨underlying389,type389⟩)) (bA ⟨underlying197,type197⟩ (bL ⟨underlying325,type325⟩) trivial)) (bA ⟨underlying101,type101⟩ (bA ⟨underlying165,type165⟩ (bL ⟨underlying293,type293⟩) (bL ⟨underlying421,type421⟩)) (bA ⟨underlying229,type229⟩ (bL ⟨underlying357,type357⟩) trivial))) (bA ⟨underlying53,type53⟩ (bA ⟨underlying85,type85⟩ (bA ⟨underlying149,type149⟩ (bL ⟨underlying277,type277⟩) (bL ⟨underlying405,type405⟩)) (bA ⟨underlying213,type213⟩ (bL ⟨underlying341,type341⟩) trivial)) (bA ⟨underlying117,type117⟩ (bA ⟨underlying181,type181⟩ (bL ⟨underlying309,type309⟩) trivial) (bA ⟨underlying245,type245⟩ (bL ⟨underlying373,type373⟩) trivial)))) (bA ⟨underlying29,type29⟩ (bA ⟨underlying45,type45⟩ (bA ⟨underlying77,type77⟩ (bA ⟨underlying141,type141⟩ (bL ⟨underlying269,type269⟩) (bL ⟨underlying397,type397⟩)) (bA ⟨underlying205,type205⟩ (bL ⟨underlying333,type333⟩) trivial)) (bA ⟨underlying109,type109⟩ (bA ⟨underlying173,type173⟩ (bL ⟨underlying301,type301⟩) trivial) (bA ⟨underlying237,type237⟩ (bL ⟨underlying365,type365⟩) trivial))) (bA ⟨underlying61,type61⟩ (bA ⟨underlying93,type93⟩ (bA ⟨underlying157,type157⟩ (bL ⟨underlying285,type285⟩) (bL ⟨underlying413,type413⟩)) (bA ⟨underlying221,type221⟩ (bL ⟨underlying349,type349⟩) trivial)) (bA ⟨underlying125,type125⟩ (bA ⟨underlying189,type189⟩ (bL ⟨underlying317,type317⟩) trivial) (bA ⟨underlying253,type253⟩ (bL ⟨underlying381,type381⟩) trivial))))))) (bA ⟨underlying2,type2⟩ (bA ⟨underlying4,type4⟩ (bA ⟨underlying8,type8⟩ (bA ⟨underlying16,type16⟩ (bA ⟨underlying32,type32⟩ (bA ⟨underlying64,type64⟩ (bA ⟨underlying128,type128⟩ (bL ⟨underlying256,type256⟩) (bL ⟨underlying384,type384⟩)) (bA ⟨underlying192,type192⟩ (bL ⟨underlying320,type320⟩) trivial)) (bA ⟨underlying96,type96⟩ (bA ⟨underlying160,type160⟩ (bL ⟨underlying288,type288⟩) (bL ⟨underlying416,type416⟩)) (bA ⟨underlying224,type224⟩ (bL ⟨underlying352,type352⟩) trivial))) (bA ⟨underlying48,type48⟩ (bA ⟨underlying80,type80⟩ (bA ⟨underlying144,type144⟩ (bL ⟨underlying272,type272⟩) (bL ⟨underlying400,type400⟩)) (bA ⟨underlying208,type208⟩ (bL ⟨underlying336,type336⟩) trivial)) (bA ⟨underlying112,type112⟩ (bA ⟨underlying176,type176⟩ (bL ⟨underlying304,type304⟩) trivial) (bA ⟨underlying240,type240⟩ (bL ⟨underlying368,type368⟩) trivial)))) (bA ⟨underlying24,type24⟩ (bA ⟨underlying40,type40⟩ (bA ⟨underlying72,type72⟩ (bA ⟨underlying136,type136⟩ (bL ⟨underlying264,type264⟩) (bL ⟨underlying392,type392⟩)) (bA ⟨underlying200,type200⟩ (bL ⟨underlying328,type328⟩) trivial)) (bA ⟨underlying104,type104⟩ (bA ⟨underlying168,type168⟩ (bL ⟨underlying296,type296⟩) (bL ⟨underlying424,type424⟩)) (bA ⟨underlying232,type232⟩ (bL ⟨underlying360,type360⟩) trivial))) (bA ⟨underlying56,type56⟩ (bA ⟨underlying88,type88⟩ (bA ⟨underlying152,type152⟩ (bL ⟨underlying280,type280⟩) (bL ⟨underlying408,type408⟩)) (bA ⟨underlying216,type216⟩ (bL ⟨underlying344,type344⟩) trivial)) (bA ⟨underlying120,type120⟩ (bA ⟨underlying184,type184⟩ (bL ⟨underlying312,type312⟩) trivial) (bA ⟨underlying248,type248⟩ (bL ⟨underlying376,type376⟩) trivial))))) (bA ⟨underlying12,type12⟩ (bA ⟨underlying20,type20⟩ (bA ⟨underlying36,type36⟩ (bA ⟨underlying68,type68⟩ (bA ⟨underlying132,type132⟩ (bL ⟨underlying260,type260⟩) (bL ⟨underlying388,type388⟩)) (bA ⟨underlying196,type196⟩ (bL ⟨underlying324,type324⟩) trivial)) (bA ⟨underlying100,type100⟩ (bA ⟨underlying164,type164⟩ (bL ⟨underlying292,type292⟩) (bL ⟨underlying420,type420⟩)) (bA ⟨underlying228,type228⟩ (bL ⟨underlying356,type356⟩) trivial))) (bA ⟨underlying52,type52⟩ (bA ⟨underlying84,type84⟩ (bA ⟨underlying148,type148⟩ (bL ⟨underlying276,type276⟩) (bL ⟨underlying404,type404⟩)) (bA ⟨underlying212,type212⟩ (bL ⟨underlying340,type340⟩) trivial)) (bA ⟨underlying116,type116⟩ (bA ⟨underlying180,type180⟩ (bL ⟨underlying308,type308⟩) trivial) (bA ⟨underlying244,type244⟩ (bL ⟨underlying372,type372⟩) trivial)))) (bA ⟨underlying28,type28⟩ (bA ⟨underlying44,type44⟩ (bA ⟨underlying76,type76⟩ (bA ⟨underlying140,type140⟩ (bL ⟨underlying268,type268⟩) (bL ⟨underlying396,type396⟩)) (bA ⟨underlying204,type204⟩ (bL ⟨underlying332,type332⟩) trivial)) (bA ⟨underlying108,type108⟩ (bA ⟨underlying172,type172⟩ (bL ⟨underlying300,type300⟩) (bL ⟨underlying428,type428⟩)) (bA ⟨underlying236,type236⟩ (bL ⟨underlying364,type364⟩) trivial))) (bA ⟨underlying60,type60⟩ (bA ⟨underlying92,type92⟩ (bA ⟨underlying156,type156⟩ (bL ⟨underlying284,type284⟩) (bL ⟨underlying412,type412⟩)) (bA ⟨underlying220,type220⟩ (bL ⟨underlying348,type348⟩) trivial)) (bA ⟨underlying124,type124⟩ (bA ⟨underlying188,type188⟩ (bL ⟨underlying316,type316⟩) trivial) (bA ⟨underlying252,type252⟩ (bL ⟨underlying380,type380⟩) trivial)))))) (bA ⟨underlying6,type6⟩ (bA ⟨underlying10,type10⟩ (bA ⟨underlying18,type18⟩ (bA ⟨underlying34,type34⟩ (bA ⟨underlying66,type66⟩ (bA ⟨underlying130,type130⟩ (bL ⟨underlying258,type258⟩) (bL ⟨underlying386,type386⟩)) (bA ⟨underlying194,type194⟩ (bL ⟨underlying322,type322⟩) trivial)) (bA ⟨underlying98,type98⟩ (bA ⟨underlying162,type162⟩ (bL ⟨underlying290,type290⟩) (bL ⟨underlying418,type418⟩)) (bA ⟨underlying226,type226⟩ (bL ⟨underlying354,type354⟩) trivial))) (bA ⟨underlying50,type50⟩ (bA ⟨underlying82,type82⟩ (bA ⟨underlying146,type146⟩ (bL ⟨underlying274,type274⟩) (bL ⟨underlying402,type402⟩)) (bA ⟨underlying210,type210⟩ (bL ⟨underlying338,type338⟩) trivial)) (bA ⟨underlying114,type114⟩ (bA ⟨underlying178,type178⟩ (bL ⟨underlying306,type306⟩) trivial) (bA ⟨underlying242,type242⟩ (bL ⟨underlying370,type370⟩) trivial)))) (bA ⟨underlying26,type26⟩ (bA ⟨underlying42,type42⟩ (bA ⟨underlying74,type74⟩ (bA ⟨underlying138,type138⟩ (bL ⟨underlying266,type266⟩) (bL ⟨underlying394,type394⟩)) (bA ⟨underlying202,type202⟩ (bL ⟨underlying330,type330⟩) trivial)) (bA ⟨underlying106,type106⟩ (bA ⟨underlying170,type170⟩ (bL ⟨underlying298,type298⟩) (bL ⟨underlying426,type426⟩)) (bA ⟨underlying234,type234⟩ (bL ⟨underlying362,type362⟩) trivial))) (bA ⟨underlying58,type58⟩ (bA ⟨underlying90,type90⟩ (bA ⟨underlying154,type154⟩ (bL ⟨underlying282,type282⟩) (bL ⟨underlying410,type410⟩)) (bA ⟨underlying218,type218⟩ (bL ⟨underlying346,type346⟩) trivial)) (bA ⟨underlying122,type122⟩ (bA ⟨underlying186,type186⟩ (bL ⟨underlying314,type314⟩) trivial) (bA ⟨underlying250,type250⟩ (bL ⟨underlying378,type378⟩) trivial))))) (bA ⟨underlying14,type14⟩ (bA ⟨underlying22,type22⟩ (bA ⟨underlying38,type38⟩ (bA ⟨underlying70,type70⟩ (bA ⟨underlying134,type134⟩ (bL ⟨underlying262,type262⟩) (bL ⟨underlying390,type390⟩)) (bA ⟨underlying198,type198⟩ (bL ⟨underlying326,type326⟩) trivial)) (bA ⟨underlying102,type102⟩ (bA ⟨underlying166,type166⟩ (bL ⟨underlying294,type294⟩) (bL ⟨underlying422,type422⟩)) (bA ⟨underlying230,type230⟩ (bL ⟨underlying358,type358⟩) trivial))) (bA ⟨underlying54,type54⟩ (bA ⟨underlying86,type86⟩ (bA ⟨underlying150,type150⟩ (bL ⟨underlying278,type278⟩) (bL ⟨underlying406,type406⟩)) (bA ⟨underlying214,type214⟩ (bL ⟨underlying342,type342⟩) trivial)) (bA ⟨underlying118,type118⟩ (bA ⟨underlying182,type182⟩ (bL ⟨underlying310,type310⟩) trivial) (bA ⟨underlying246,type246⟩ (bL ⟨underlying374,type374⟩) trivial)))) (bA ⟨underlying30,type30⟩ (bA ⟨underlying46,type46⟩ (bA ⟨underlying78,type78⟩ (bA ⟨underlying142,type142⟩ (bL ⟨underlying270,type270⟩) (bL ⟨underlying398,type398⟩)) (bA ⟨underlying206,type206⟩ (bL ⟨underlying334,type334⟩) trivial)) (bA ⟨underlying110,type110⟩ (bA ⟨underlying174,type174⟩ (bL ⟨underlying302,type302⟩) trivial) (bA ⟨underlying238,type238⟩ (bL ⟨underlying366,type366⟩) trivial))) (bA ⟨underlying62,type62⟩ (bA ⟨underlying94,type94⟩ (bA ⟨underlying158,type158⟩ (bL ⟨underlying286,type286⟩) (bL ⟨underlying414,type414⟩)) (bA ⟨underlying222,type222⟩ (bL ⟨underlying350,type350⟩) trivial)) (bA ⟨underlying126,type126⟩ (bA ⟨underlying190,type190⟩ (bL ⟨underlying318,type318⟩) trivial) (bA ⟨underlying254,type254⟩ (bL ⟨underlying382,type382⟩) trivial))))))))
theorem fnTree_ok : FnOk Tryz.prog fnTree.get := FnOk.of (bA func0 (bA func1 (bA func3 (bA func7 (bA func15 (bA func31 (bA func63 (bA func127 (bL func255) trivial) (bA func191 (bL func319) trivial)) (bA func95 (bA func159 (bL func287) trivial) (bL func223))) (bA func47 (bA func79 (bA func143 (bL func271) trivial) (bL func207)) (bA func111 (bA func175 (bL func303) trivial) (bL func239)))) (bA func23 (bA func39 (bA func71 (bA func135 (bL func263) trivial) (bL func199)) (bA func103 (bA func167 (bL func295) trivial) (bL func231))) (bA func55 (bA func87 (bA func151 (bL func279) trivial) (bL func215)) (bA func119 (bA func183 (bL func311) trivial) (bL func247))))) (bA func11 (bA func19 (bA func35 (bA func67 (bA func131 (bL func259) trivial) (bA func195 (bL func323) trivial)) (bA func99 (bA func163 (bL func291) trivial) (bL func227))) (bA func51 (bA func83 (bA func147 (bL func275) trivial) (bL func211)) (bA func115 (bA func179 (bL func307) trivial) (bL func243)))) (bA func27 (bA func43 (bA func75 (bA func139 (bL func267) trivial) (bL func203)) (bA func107 (bA func171 (bL func299) trivial) (bL func235))) (bA func59 (bA func91 (bA func155 (bL func283) trivial) (bL func219)) (bA func123 (bA func187 (bL func315) trivial) (bL func251)))))) (bA func5 (bA func9 (bA func17 (bA func33 (bA func65 (bA func129 (bL func257) trivial) (bA func193 (bL func321) trivial)) (bA func97 (bA func161 (bL func289) trivial) (bL func225))) (bA func49 (bA func81 (bA func145 (bL func273) trivial) (bL func209)) (bA func113 (bA func177 (bL func305) trivial) (bL func241)))) (bA func25 (bA func41 (bA func73 (bA func137 (bL func265) trivial) (bL func201)) (bA func105 (bA func169 (bL func297) trivial) (bL func233))) (bA func57 (bA func89 (bA func153 (bL func281) trivial) (bL func217)) (bA func121 (bA func185 (bL func313) trivial) (bL func249))))) (bA func13 (bA func21 (bA func37 (bA func69 (bA func133 (bL func261) trivial) (bA func197 (bL func325) trivial)) (bA func101 (bA func165 (bL func293) trivial) (bL func229))) (bA func53 (bA func85 (bA func149 (bL func277) trivial) (bL func213)) (bA func117 (bA func181 (bL func309) trivial) (bL func245)))) (bA func29 (bA func45 (bA func77 (bA func141 (bL func269) trivial) (bL func205)) (bA func109 (bA func173 (bL func301) trivial) (bL func237))) (bA func61 (bA func93 (bA func157 (bL func285) trivial) (bL func221)) (bA func125 (bA func189 (bL func317) trivial) (bL func253))))))) (bA func2 (bA func4 (bA func8 (bA func16 (bA func32 (bA func64 (bA func128 (bL func256) trivial) (bA func192 (bL func320) trivial)) (bA func96 (bA func160 (bL func288) trivial) (bL func224))) (bA func48 (bA func80 (bA func144 (bL func272) trivial) (bL func208)) (bA func112 (bA func176 (bL func304) trivial) (bL func240)))) (bA func24 (bA func40 (bA func72 (bA func136 (bL func264) trivial) (bL func200)) (bA func104 (bA func168 (bL func296) trivial) (bL func232))) (bA func56 (bA func88 (bA func152 (bL func280) trivial) (bL func216)) (bA func120 (bA func184 (bL func312) trivial) (bL func248))))) (bA func12 (bA func20 (bA func36 (bA func68 (bA func132 (bL func260) trivial) (bA func196 (bL func324) trivial)) (bA func100 (bA func164 (bL func292) trivial) (bL func228))) (bA func52 (bA func84 (bA func148 (bL func276) trivial) (bL func212)) (bA func116 (bA func180 (bL func308) trivial) (bL func244)))) (bA func28 (bA func44 (bA func76 (bA func140 (bL func268) trivial) (bL func204)) (bA func108 (bA func172 (bL func300) trivial) (bL func236))) (bA func60 (bA func92 (bA func156 (bL func284) trivial) (bL func220)) (bA func124 (bA func188 (bL func316) trivial) (bL func252)))))) (bA func6 (bA func10 (bA func18 (bA func34 (bA func66 (bA func130 (bL func258) trivial) (bA func194 (bL func322) trivial)) (bA func98 (bA func162 (bL func290) trivial) (bL func226))) (bA func50 (bA func82 (bA func146 (bL func274) trivial) (bL func210)) (bA func114 (bA func178 (bL func306) trivial) (bL func242)))) (bA func26 (bA func42 (bA func74 (bA func138 (bL func266) trivial) (bL func202)) (bA func106 (bA func170 (bL func298) trivial) (bL func234))) (bA func58 (bA func90 (bA func154 (bL func282) trivial) (bL func218)) (bA func122 (bA func186 (bL func314) trivial) (bL func250))))) (bA func14 (bA func22 (bA func38 (bA func70 (bA func134 (bL func262) trivial) (bL func198)) (bA func102 (bA func166 (bL func294) trivial) (bL func230))) (bA func54 (bA func86 (bA func150 (bL func278) trivial) (bL func214)) (bA func118 (bA func182 (bL func310) trivial) (bL func246)))) (bA func30 (bA func46 (bA func78 (bA func142 (bL func270) trivial) (bL func206)) (bA func110 (bA func174 (bL func302) trivial) (bL func238))) (bA func62 (bA func94 (bA func158 (bL func286) trivial) (bL func222)) (bA func126 (bA func190 (bL func318) trivial) (bL func254))))))))
end
def Quiet (w w' : World) : Prop := Go.RowKit.Below w.heap.size w w'
section
variable {O : Objs} {I : Nat → Int} {X : Nat → List Int → Int} {ρ : Map} {E : Nat → Int} {w w' : World} {g g' : Gl} {C : Cx} {l : List SB}
theorem M.quiet (h : M O ρ E l w) (hq : Quiet w w') : M O ρ E l w' :=
 ⟨fun b hb hc=>(h.blk b hb hc).keep hq.size fun L hL x hx=>hq.block x (h.low b hb hc L hL x hx),h.disj,fun b hb hc L hL x hx=>Nat.lt_of_lt_of_le (h.low b hb hc L hL x hx) hq.size⟩
theorem Ext.quiet {m : Mem} (hq : Quiet w w') : Ext ρ ρ m m w w' := ⟨Lk.rfl',hq.size,fun n hn _=>hq.block n hn,fun _=>.inr rfl,fun _ _ _ h=>absurd rfl h,hq.mono (Nat.zero_le _)⟩
theorem Sum.of (S : Sum) {f : FuncId} (hbody : ∃ fn b,C.P.funcs[f]? = some fn ∧ fn.body = some b)
  (hcalls : ∀ xs : List Int,xs.length = S.k → InDom S.dom (ofL xs) → ∀ Ef : Nat → Int,(∀ i,i < S.k → Ef i = xs.getD i 0) → (∀ i,S.k ≤ i → Ef i = clampI (S.iv i).1 (S.iv i).2 (S.F i xs)) →
   ∀ ρ vs w,satVs ρ Ef S.args vs → Calls C.P f vs.toArray w fun e w'=>∃ u,e = .returned u ∧ S.out.sat ρ Ef u ∧ Quiet w w') :
  ∀ I X E,CtrOk C O I X E f S.ctr := fun I X E args m pc g v m1 g' h=>by
 unfold Sum.ctr at h
 simp only at h
 split at h
 ·cases h
 ·rename_i a ha
  split at h
  ·rename_i hc
   obtain ⟨hkeys,_⟩ := hc
   split at h
   ·rename_i v2 g2 hout
    injection h with h; injection h with e1 e; injection e with e2 e3; subst e1; subst e2; subst e3
    have hgood : Good I X E g2 → Good I X E g := fun H=>(mustAll_ok ((outV_ok (Ef := fun _=>0) hout).1 H)).1
    refine ⟨hbody,fun _=>St.of_good hgood,fun H ρ vs w hs hG hM hW hp hf=>?_⟩
    have hmust := mustAll_ok ((outV_ok (Ef := fun _=>0) hout).1 H)
    have hdom : InDom S.dom (ofL ((a.map (·.2)).map (Ref.val E))) := fun p hpm=>by
     have := hmust.2 hp p hpm
     unfold ofL
     rw [getD_map_val]
     exact this
    have hlen : a.length = S.k := by
     have := congrArg List.length hkeys
     simpa using this
    generalize hrs : a.map (·.2) = rs at *
    let xs : List Int := rs.map (Ref.val E)
    have hxl : xs.length = S.k := by
     have : rs.length = a.length := by rw [← hrs]; simp
     simp only [xs,List.length_map,this,hlen]
    let Ef : Nat → Int := fun i=>if i < S.k then xs.getD i 0 else clampI (S.iv i).1 (S.iv i).2 (S.F i xs)
    have hin : ∀ i,i < S.k → Ef i = (rs.getD i (.c 0)).val E := fun i hi=>by
     simp only [Ef,if_pos hi]
     exact getD_map_val
    have hargs : satVs ρ Ef S.args vs := by
     refine matchVs_ok ha (fun x hx=>?_) hs
     have hx1 : x.1 < S.k := by
      have : x.1 ∈ a.map (·.1) := List.mem_map.2 ⟨x,hx,rfl⟩
      rw [hkeys] at this
      exact List.mem_range.1 this
     rw [hin x.1 hx1,← hrs,find_key hkeys x hx]
    refine Calls.mono (hcalls xs hxl hdom Ef (fun i hi=>by simp only [Ef,if_pos hi]) (fun i hi=>by simp only [Ef]; rw [if_neg (by omega)]) ρ vs w hargs) fun e w' he=>?_
    obtain ⟨u,rfl,k1,k2⟩ := he
    have hout2 := (outV_ok (I := I) (X := X) (E := E) (Ef := Ef) hout).2 H ⟨hin,fun i hi=>by simp only [Ef]; rw [if_neg (by omega)]⟩
    exact ⟨ρ,u,rfl,hout2 ρ ρ u k1,hM.quiet k2,Ext.quiet k2⟩
   ·cases h
  ·cases h
end
structure Bd where
 bl : List (Nat × Nat)
 op : List (Nat × Leaf)
 en : List (Nat × Ref)
def Bd.nil : Bd := ⟨[],[],[]⟩
def Bd.app (a b : Bd) : Bd := ⟨a.bl ++ b.bl,a.op ++ b.op,a.en ++ b.en⟩
def slaOf : Leaf → Option (Nat × Nat × Nat)
 | .slc i o n c=>if n ≤ c then some (i,o,n) else none
 | .slu i o n _=>some (i,o,n)
 | .sla i o n=>some (i,o,n)
 | _=>none
def mtL (ob : Nat) : Leaf → Leaf → Option Bd
 | .int k p,l=>match l with
  | .int k' r=>match Nat.beq (kno k) (kno k') with
   | true=>match p with
    | .e i=>some ⟨[],[],[(i,r)]⟩
    | .c n=>if r.same (.c n) then some .nil else none
   | false=>none
  | _=>none
 | .bool p,l=>match l with
  | .bool r=>match p with
   | .e i=>some ⟨[],[],[(i,r)]⟩
   | .c n=>if r.same (.c n) then some .nil else none
  | _=>none
 | .ptr i o,l=>match l with
  | .ptr j o'=>if Nat.beq o' o then some ⟨[(i,j)],[],[]⟩ else none
  | _=>none
 | .sla i o n,l=>match slaOf l with
  | some (j,o',n')=>if Nat.beq o' o && Nat.beq n' n then some ⟨[(i,j)],[],[]⟩ else none
  | none=>none
 | .opq i,l=>if ob ≤ i then (if l.firm then some ⟨[],[(i,l)],[]⟩ else none) else
  match l with
  | .opq j=>some ⟨[(i,j)],[],[]⟩
  | _=>none
 | .opl i n,l=>match n,l with
  | .e k,.opl j r=>some ⟨[(i,j)],[],[(k,r)]⟩
  | _,_=>none
 | .nilI,l=>match l with
  | .nilI=>some .nil
  | _=>none
 | .nilP,l=>match l with
  | .nilP=>some .nil
  | _=>none
 | .nilS,l=>match l with
  | .nilS=>some .nil
  | _=>none
 | .nilF,l=>match l with
  | .nilF=>some .nil
  | _=>none
 | .fn f c,l=>match c with
  | .junk=>match l with
   | .fn f' c'=>match c' with
    | .junk=>if Nat.beq f f' then some .nil else none
    | _=>none
   | _=>none
  | _=>none
 | .junk,_=>some .nil
 | _,_=>none
def mtLs (ob : Nat) : List Leaf → List Leaf → Option Bd
 | [],l=>match l with
  | []=>some .nil
  | _ :: _=>none
 | p :: ps,l=>match l with
  | []=>none
  | x :: xs=>match mtL ob p x with
   | some a=>match mtLs ob ps xs with
    | some b=>some (a.app b)
    | none=>none
   | none=>none
def mtV (ob : Nat) : SV → SV → Option Bd
 | .a (.one p),.a (.one l)=>mtL ob p l
 | .a (.agg ps),.a (.agg ls)=>mtLs ob ps ls
 | _,_=>none
def mtVs (ob : Nat) : List SV → List SV → Option Bd
 | [],[]=>some .nil
 | p :: ps,l :: ls=>match mtV ob p l with
  | some a=>match mtVs ob ps ls with
   | some b=>some (a.app b)
   | none=>none
  | none=>none
 | _,_=>none
def lkp (l : List (Nat × Nat)) (i : Nat) : Option Nat :=
 match l with
 | []=>none
 | (a,b) :: l=>if Nat.beq a i then some b else lkp l i
def findB (m : List SB) (id : Nat) : Option SB :=
 match m with
 | []=>none
 | b :: m=>if Nat.beq b.id id then some b else findB m id
def mtBs (ob : Nat) (m : List SB) : List SB → Bd → Option Bd
 | [],d=>some d
 | pb :: ps,d=>match lkp d.bl pb.id with
  | some j=>match findB m j with
   | some ab=>if ab.obj = pb.obj ∧ ab.cs = [] then match mtLs ob pb.cells ab.cells with
     | some e=>mtBs ob m ps (d.app e)
     | none=>none
    else none
   | none=>none
  | none=>none
abbrev Ov := List (Nat × Leaf × Value)
def Ov.of (ov : Ov) (op : List (Nat × Leaf)) : Prop := ov.map (fun x=>(x.1,x.2.1)) = op
section
variable {O : Objs} {ρ ρf : Map} {E Ef : Nat → Int} {w : World} {ob : Nat}
structure Binds (ρ ρf : Map) (E Ef : Nat → Int) (bl : List (Nat × Nat)) (ov : Ov) (en : List (Nat × Ref)) : Prop where
 bl : ∀ x ∈ bl,ρf x.1 = ρ x.2
 op : ∀ x ∈ ov,∃ L,ρf x.1 = some L ∧ L.val = x.2.2
 en : ∀ x ∈ en,Ef x.1 = x.2.val E
theorem Binds.l {a c : List (Nat × Nat)} {ov ov' : Ov} {en en' : List (Nat × Ref)} (h : Binds ρ ρf E Ef (a ++ c) (ov ++ ov') (en ++ en')) : Binds ρ ρf E Ef a ov en :=
 ⟨fun x hx=>h.bl x (List.mem_append_left _ hx),fun x hx=>h.op x (List.mem_append_left _ hx),fun x hx=>h.en x (List.mem_append_left _ hx)⟩
theorem Binds.r {a c : List (Nat × Nat)} {ov ov' : Ov} {en en' : List (Nat × Ref)} (h : Binds ρ ρf E Ef (a ++ c) (ov ++ ov') (en ++ en')) : Binds ρ ρf E Ef c ov' en' :=
 ⟨fun x hx=>h.bl x (List.mem_append_right _ hx),fun x hx=>h.op x (List.mem_append_right _ hx),fun x hx=>h.en x (List.mem_append_right _ hx)⟩
theorem Ov.of_app {ov ov' : Ov} {a c : List (Nat × Leaf)} (h : ov.of a) (h' : ov'.of c) : Ov.of (ov ++ ov') (a ++ c) := by
 unfold Ov.of at *
 rw [List.map_append,h,h']
theorem slaOf_ok {l : Leaf} {i o n : Nat} (h : slaOf l = some (i,o,n)) {v : Value} (hv : l.sat ρ E v) : ∃ L cap,ρ i = some L ∧ n ≤ cap ∧ v = .slice (some ⟨L.n,o,none⟩) n cap := by
 cases l <;> simp only [slaOf] at h <;> try (cases h; done)
 ·split at h
  ·rename_i hc
   injection h with h; injection h with e1 e; injection e with e2 e3; subst e1; subst e2; subst e3
   obtain ⟨L,hL,hv⟩ := hv
   exact ⟨L,_,hL,hc,hv⟩
  ·cases h
 ·injection h with h; injection h with e1 e; injection e with e2 e3; subst e1; subst e2; subst e3
  obtain ⟨L,cap,hL,_,hc,hv⟩ := hv
  exact ⟨L,cap,hL,hc,hv⟩
 ·injection h with h; injection h with e1 e; injection e with e2 e3; subst e1; subst e2; subst e3
  exact hv
def Mt (ρ : Map) (E : Nat → Int) (d : Bd) (S : Map → (Nat → Int) → Prop) : Prop :=
 ∃ ov : Ov,ov.of d.op ∧ (∀ x ∈ ov,x.2.1.sat ρ E x.2.2 ∧ Plain x.2.2) ∧ ∀ ρf Ef,Binds ρ ρf E Ef d.bl ov d.en → S ρf Ef
theorem Mt.still {d : Bd} {S : Map → (Nat → Int) → Prop} (h : d.op = []) (hS : ∀ ρf Ef,Binds ρ ρf E Ef d.bl [] d.en → S ρf Ef) : Mt ρ E d S :=
 ⟨[],by unfold Ov.of; rw [h]; rfl,fun x hx=>(by cases hx),hS⟩
theorem Mt.app {a b : Bd} {S T : Map → (Nat → Int) → Prop} (h : Mt ρ E a S) (h' : Mt ρ E b T) : Mt ρ E (a.app b) fun ρf Ef=>S ρf Ef ∧ T ρf Ef := by
 obtain ⟨o1,a1,a2,a3⟩ := h
 obtain ⟨o2,b1,b2,b3⟩ := h'
 refine ⟨o1 ++ o2,Ov.of_app a1 b1,fun x hx=>?_,fun ρf Ef hb=>⟨a3 ρf Ef hb.l,b3 ρf Ef hb.r⟩⟩
 rcases List.mem_append.1 hx with hx | hx
 ·exact a2 x hx
 ·exact b2 x hx
theorem Mt.imp {a : Bd} {S T : Map → (Nat → Int) → Prop} (h : Mt ρ E a S) (hi : ∀ ρf Ef,S ρf Ef → T ρf Ef) : Mt ρ E a T := by
 obtain ⟨o1,a1,a2,a3⟩ := h
 exact ⟨o1,a1,a2,fun ρf Ef hb=>hi _ _ (a3 ρf Ef hb)⟩
theorem mtL_ok {p l : Leaf} {d : Bd} (h : mtL ob p l = some d) {v : Value} (hv : l.sat ρ E v) : Mt ρ E d fun ρf Ef=>p.sat ρf Ef v := by
 unfold mtL at h
 split at h
 ·rename_i k p
  split at h
  ·rename_i k' r
   split at h
   ·rename_i hk
    obtain rfl := kno_ok hk
    split at h
    ·rename_i i
     injection h with h; subst h
     refine Mt.still rfl fun ρf Ef hb=>?_
     have := hb.en (i,r) (by simp)
     simp only [Leaf.sat] at hv ⊢
     rw [hv]
     exact congrArg _ this.symm
    ·rename_i n
     split at h
     ·rename_i hr
      injection h with h; subst h
      have := Ref.same_ok hr
      subst this
      exact Mt.still rfl fun _ _ _=>hv
     ·cases h
   ·cases h
  ·cases h
 ·rename_i p
  split at h
  ·rename_i r
   split at h
   ·rename_i i
    injection h with h; subst h
    refine Mt.still rfl fun ρf Ef hb=>?_
    have := hb.en (i,r) (by simp)
    simp only [Leaf.sat] at hv ⊢
    rw [hv]
    exact congrArg _ (congrArg _ this.symm)
   ·rename_i n
    split at h
    ·rename_i hr
     injection h with h; subst h
     have := Ref.same_ok hr
     subst this
     exact Mt.still rfl fun _ _ _=>hv
    ·cases h
  ·cases h
 ·rename_i i o
  split at h
  ·rename_i j o'
   split at h
   ·rename_i ho
    injection h with h; subst h
    rw [Nat.eq_of_beq_eq_true ho] at hv
    obtain ⟨L,hL,hv⟩ := hv
    refine Mt.still rfl fun ρf Ef hb=>⟨L,?_,hv⟩
    exact (hb.bl (i,j) (by simp)).trans hL
   ·cases h
  ·cases h
 ·rename_i i o n
  split at h
  ·rename_i j o' n' hs
   split at h
   ·rename_i ho
    injection h with h; subst h
    simp only [Bool.and_eq_true] at ho
    obtain ⟨L,cap,hL,hc,hv⟩ := slaOf_ok hs hv
    rw [Nat.eq_of_beq_eq_true ho.1,Nat.eq_of_beq_eq_true ho.2] at hv
    rw [Nat.eq_of_beq_eq_true ho.2] at hc
    refine Mt.still rfl fun ρf Ef hb=>⟨L,cap,?_,hc,hv⟩
    exact (hb.bl (i,j) (by simp)).trans hL
   ·cases h
  ·cases h
 ·rename_i i
  split at h
  ·split at h
   ·rename_i hf
    injection h with h; subst h
    refine ⟨[(i,l,v)],rfl,fun x hx=>?_,fun ρf Ef hb=>?_⟩
    ·rw [List.mem_singleton] at hx; subst hx
     exact ⟨hv,firm_plain hf hv⟩
    ·obtain ⟨L,hL,e⟩ := hb.op (i,l,v) (by simp)
     exact ⟨L,hL,e.symm,firm_plain hf hv⟩
   ·cases h
  ·split at h
   ·rename_i j
    injection h with h; subst h
    obtain ⟨L,hL,hv⟩ := hv
    refine Mt.still rfl fun ρf Ef hb=>⟨L,?_,hv⟩
    exact (hb.bl (i,j) (by simp)).trans hL
   ·cases h
 ·rename_i i n
  split at h
  ·rename_i k j r
   injection h with h; subst h
   obtain ⟨L,hL,e,a,len,cap,e2,hn⟩ := hv
   refine Mt.still rfl fun ρf Ef hb=>⟨L,?_,e,a,len,cap,e2,?_⟩
   ·exact (hb.bl (i,j) (by simp)).trans hL
   ·exact (hb.en (k,r) (by simp)).trans hn
  ·cases h
 ·split at h
  ·injection h with h; subst h; exact Mt.still rfl fun _ _ _=>hv
  ·cases h
 ·split at h
  ·injection h with h; subst h; exact Mt.still rfl fun _ _ _=>hv
  ·cases h
 ·split at h
  ·injection h with h; subst h; exact Mt.still rfl fun _ _ _=>hv
  ·cases h
 ·split at h
  ·injection h with h; subst h; exact Mt.still rfl fun _ _ _=>hv
  ·cases h
 ·split at h
  ·split at h
   ·split at h
    ·split at h
     ·rename_i hf
      injection h with h; subst h
      obtain rfl := Nat.eq_of_beq_eq_true hf
      refine Mt.still rfl fun _ _ _=>?_
      simp only [Leaf.sat,Leaf.satc] at hv ⊢
      exact hv
     ·cases h
    ·cases h
   ·cases h
  ·cases h
 ·injection h with h; subst h
  refine Mt.still rfl fun _ _ _=>?_
  simp only [Leaf.sat]
 ·cases h
theorem mtLs_ok : ∀ {ps ls : List Leaf} {d : Bd},mtLs ob ps ls = some d → ps.length = ls.length ∧ ∀ {vs : List Value},sats ρ E ls vs → Mt ρ E d fun ρf Ef=>sats ρf Ef ps vs
 | [],ls,d,h=>by
  simp only [mtLs] at h
  split at h
  ·injection h with h; subst h
   exact ⟨rfl,fun _=>Mt.still rfl fun _ _ _=>trivial⟩
  ·cases h
 | p :: ps,ls,d,h=>by
  simp only [mtLs] at h
  split at h
  ·cases h
  ·rename_i x xs
   split at h
   ·rename_i a ha
    split at h
    ·rename_i b hb
     injection h with h; subst h
     obtain ⟨k1,k2⟩ := mtLs_ok hb
     refine ⟨by simp [k1],fun {vs} hs=>?_⟩
     cases vs with
     | nil=>exact hs.elim
     | cons v vs=>exact (mtL_ok ha hs.1).app (k2 hs.2)
    ·cases h
   ·cases h
theorem mtV_ok {p l : SV} {d : Bd} (h : mtV ob p l = some d) {v : Value} (hv : l.sat ρ E v) : Mt ρ E d fun ρf Ef=>p.sat ρf Ef v := by
 unfold mtV at h
 split at h
 ·exact mtL_ok h hv
 ·obtain ⟨cs,e,hl,hs⟩ := hv
  obtain ⟨k1,k2⟩ := mtLs_ok (ρ := ρ) (E := E) h
  exact (k2 hs).imp fun ρf Ef h=>⟨cs,e,by rw [hl,k1],h⟩
 ·cases h
theorem mtVs_ok : ∀ {ps ls : List SV} {d : Bd},mtVs ob ps ls = some d → ∀ {vs : List Value},satVs ρ E ls vs → Mt ρ E d fun ρf Ef=>satVs ρf Ef ps vs
 | [],[],d,h,vs,hs=>by
  simp only [mtVs] at h
  injection h with h; subst h
  cases vs with
  | nil=>exact Mt.still rfl fun _ _ _=>trivial
  | cons _ _=>exact hs.elim
 | p :: ps,l :: ls,d,h,vs,hs=>by
  simp only [mtVs] at h
  split at h
  ·rename_i a ha
   split at h
   ·rename_i b hb
    injection h with h; subst h
    cases vs with
    | nil=>exact hs.elim
    | cons v vs=>exact (mtV_ok ha hs.1).app (mtVs_ok hb hs.2)
   ·cases h
  ·cases h
 | [],_ :: _,_,h,_,_=>by simp [mtVs] at h
 | _ :: _,[],_,h,_,_=>by simp [mtVs] at h
theorem lkp_mem : ∀ {l : List (Nat × Nat)} {i j : Nat},lkp l i = some j → (i,j) ∈ l
 | [],_,_,h=>by cases h
 | (a,b) :: l,i,j,h=>by
  simp only [lkp] at h
  split at h
  ·rename_i ha
   injection h with h; subst h
   rw [Nat.eq_of_beq_eq_true ha]; simp
  ·exact List.mem_cons_of_mem _ (lkp_mem h)
theorem findB_ok : ∀ {m : List SB} {i : Nat} {b : SB},findB m i = some b → b ∈ m ∧ b.id = i
 | [],_,_,h=>by cases h
 | c :: m,i,b,h=>by
  simp only [findB] at h
  split at h
  ·rename_i ha
   injection h with h; subst h
   exact ⟨by simp,Nat.eq_of_beq_eq_true ha⟩
  ·obtain ⟨h1,h2⟩ := findB_ok h
   exact ⟨List.mem_cons_of_mem _ h1,h2⟩
def PatB (O : Objs) (_ρ ρf : Map) (Ef : Nat → Int) (m : List SB) (bl : List (Nat × Nat)) (w : World) (pb : SB) : Prop :=
 Blk O ρf Ef pb w ∧ ∃ ab ∈ m,(pb.id,ab.id) ∈ bl ∧ ab.obj = pb.obj ∧ ab.cs = []
theorem mtBs_ok {m : List SB} (hM : M O ρ E m w) : ∀ {ps : List SB} {d0 d : Bd},mtBs ob m ps d0 = some d → ∃ e : Bd,d = d0.app e ∧ Mt ρ E e fun ρf Ef=>(∀ x ∈ d.bl,ρf x.1 = ρ x.2) → ∀ pb ∈ ps,PatB O ρ ρf Ef m d.bl w pb
 | [],d0,d,h=>by
  simp only [mtBs] at h
  injection h with h; subst h
  exact ⟨.nil,by cases d0; simp [Bd.app,Bd.nil],Mt.still rfl fun _ _ _ _ pb hpb=>by cases hpb⟩
 | pb :: ps,d0,d,h=>by
  simp only [mtBs] at h
  split at h
  ·rename_i j hj
   split at h
   ·rename_i ab hab
    split at h
    ·rename_i ho
     split at h
     ·rename_i e he
      obtain ⟨e2,hd,k⟩ := mtBs_ok hM h
      obtain ⟨a1,a2⟩ := findB_ok hab
      obtain ⟨L,vs,b1,b2,b3⟩ := hM.blk ab a1 (allC_nil ho.2)
      obtain ⟨c1,c2⟩ := mtLs_ok (ρ := ρ) (E := E) he
      refine ⟨e.app e2,by rw [hd]; simp [Bd.app,List.append_assoc],((c2 b2).app k).imp fun ρf Ef hh hbl x hx=>?_⟩
      rcases List.mem_cons.1 hx with rfl | hx
      ·have hin : (x.id,ab.id) ∈ d.bl := by
        rw [hd]
        have := lkp_mem hj
        rw [← a2] at this
        exact List.mem_append_left _ (List.mem_append_left _ this)
       refine ⟨⟨L,vs,(hbl _ hin).trans b1,hh.1,?_⟩,ab,a1,hin,ho⟩
       rw [← ho.1]
       exact b3
      ·exact hh.2 hbl x hx
     ·cases h
    ·cases h
   ·cases h
  ·cases h
end
structure Cv where
 bl : List (Nat × Nat)
 op : List (Nat × Leaf)
 ob : Nat
 nt : Nat
 nu : Nat
 nb : Nat
 k : Nat
 F : Nat → List Int → Int
 iv : Nat → Int × Int
 rs : List Ref
 tab : List (Nat × Ref)
def Cv.id (c : Cv) (i : Nat) : Option Nat := if i < c.nt then lkp c.bl i else if i < c.nu then some (c.nb + (i - c.nt)) else none
def lkpL (l : List (Nat × Leaf)) (i : Nat) : Option Leaf :=
 match l with
 | []=>none
 | (a,b) :: l=>if Nat.beq a i then some b else lkpL l i
def lkpR (l : List (Nat × Ref)) (i : Nat) : Option Ref :=
 match l with
 | []=>none
 | (a,b) :: l=>if Nat.beq a i then some b else lkpR l i
theorem lkpR_mem : ∀ {l : List (Nat × Ref)} {i : Nat} {r : Ref},lkpR l i = some r → (i,r) ∈ l
 | [],_,_,h=>by cases h
 | (a,b) :: l,i,j,h=>by
  simp only [lkpR] at h
  split at h
  ·rename_i ha
   injection h with h; subst h
   rw [Nat.eq_of_beq_eq_true ha]; simp
  ·exact List.mem_cons_of_mem _ (lkpR_mem h)
def shareR (k : Nat) (F : Nat → List Int → Int) (iv : Nat → Int × Int) (rs : List Ref) : List Nat → Gl → List (Nat × Ref) × Gl
 | [],g=>([],g)
 | i :: l,g =>
  let (r,g) := outR k F iv rs (.e i) g
  let (t,g) := shareR k F iv rs l g
  ((i,r) :: t,g)
def Cv.ref (c : Cv) (r : Ref) (g : Gl) : Ref × Gl :=
 match r with
 | .c n=>(.c n,g)
 | .e i=>match lkpR c.tab i with
  | some q=>(q,g)
  | none=>outR c.k c.F c.iv c.rs (.e i) g
def Cv.leaf (c : Cv) : Leaf → Gl → Option (Leaf × Gl)
 | .int q r,g=>let (r,g) := c.ref r g; some (.int q r,g)
 | .bool r,g=>let (r,g) := c.ref r g; some (.bool r,g)
 | .nilI,g=>some (.nilI,g)
 | .nilP,g=>some (.nilP,g)
 | .nilS,g=>some (.nilS,g)
 | .nilF,g=>some (.nilF,g)
 | .junk,g=>some (.junk,g)
 | .ptr i o,g=>match c.id i with | some j=>some (.ptr j o,g) | none=>none
 | .slc i o n k,g=>match c.id i with | some j=>some (.slc j o n k,g) | none=>none
 | .slu i o n k,g=>match c.id i with | some j=>some (.slu j o n k,g) | none=>none
 | .sla i o n,g=>match c.id i with | some j=>some (.sla j o n,g) | none=>none
 | .opq i,g=>if c.ob ≤ i then (lkpL c.op i).map fun l=>(l,g) else match c.id i with | some j=>some (.opq j,g) | none=>none
 | .opl i n,g=>match c.id i with
  | some j=>let (n,g) := c.ref n g; some (.opl j n,g)
  | none=>none
 | .ifc t x,g=>match c.leaf x g with
  | some (x,g)=>some (.ifc t x,g)
  | none=>none
 | .mix q a b,g =>
  let (q,g) := c.ref q g
  match c.leaf a g with
  | some (a,g)=>match c.leaf b g with
   | some (b,g)=>some (.mix q a b,g)
   | none=>none
  | none=>none
 | _,_=>none
def Cv.leafs (c : Cv) : List Leaf → Gl → Option (List Leaf × Gl)
 | [],g=>some ([],g)
 | l :: ls,g=>match c.leaf l g with
  | some (l,g)=>match c.leafs ls g with
   | some (ls,g)=>some (l :: ls,g)
   | none=>none
  | none=>none
def Cv.sa (c : Cv) : SA → Gl → Option (SA × Gl)
 | .one l,g=>match c.leaf l g with | some (l,g)=>some (.one l,g) | none=>none
 | .agg ls,g=>match c.leafs ls g with | some (ls,g)=>some (.agg ls,g) | none=>none
def Cv.sas (c : Cv) : List SA → Gl → Option (List SA × Gl)
 | [],g=>some ([],g)
 | l :: ls,g=>match c.sa l g with
  | some (l,g)=>match c.sas ls g with
   | some (ls,g)=>some (l :: ls,g)
   | none=>none
  | none=>none
def Cv.sv (c : Cv) : SV → Gl → Option (SV × Gl)
 | .a x,g=>match c.sa x g with | some (x,g)=>some (.a x,g) | none=>none
 | .tup xs,g=>match c.sas xs g with | some (xs,g)=>some (.tup xs,g) | none=>none
 | _,_=>none
def Cv.conds (c : Cv) : List (Ref × Bool) → Gl → List (Ref × Bool) × Gl
 | [],g=>([],g)
 | (r,y) :: l,g =>
  let (r,g) := c.ref r g
  let (l,g) := c.conds l g
  ((r,y) :: l,g)
def Cv.blks (c : Cv) : List SB → Gl → Option (List SB × Gl)
 | [],g=>some ([],g)
 | b :: bs,g=>match c.id b.id with
  | some j=>match c.leafs b.cells g with
   | some (ls,g) =>
    let (q,g) := c.conds b.cs g
    match c.blks bs g with
    | some (r,g)=>some (⟨j,q,ls,b.obj⟩ :: r,g)
    | none=>none
   | none=>none
  | none=>none
section
variable {O : Objs} {I : Nat → Int} {X : Nat → List Int → Int} {E Ef : Nat → Int} {ρ ρf : Map} {w : World} {c : Cv}
structure Cv.Out (c : Cv) (E Ef : Nat → Int) : Prop where
 out : OutOk c.k c.F c.iv c.rs E Ef
 tab : ∀ p ∈ c.tab,p.2.val E = Ef p.1
structure CvOk (c : Cv) (ρf ρ : Map) (E Ef : Nat → Int) : Prop where
 id : ∀ i j,c.id i = some j → ρ j = ρf i
 op : ∀ i l,c.ob ≤ i → lkpL c.op i = some l → ∀ L,ρf i = some L → l.sat ρ E L.val
 out : c.Out E Ef
theorem Cv.ref_ok {r q : Ref} {g g' : Gl} (h : c.ref r g = (q,g')) : (Good I X E g' → Good I X E g) ∧ (Good I X E g' → c.Out E Ef → q.val E = r.val Ef) := by
 unfold Cv.ref at h
 split at h
 ·injection h with e1 e2; subst e1; subst e2
  exact ⟨fun H=>H,fun _ _=>rfl⟩
 ·split at h
  ·rename_i hl
   injection h with e1 e2; subst e1; subst e2
   exact ⟨fun H=>H,fun _ ho=>ho.tab _ (lkpR_mem hl)⟩
  ·obtain ⟨h1,h2⟩ := outR_ok (I := I) (X := X) (E := E) (Ef := Ef) h
   exact ⟨h1,fun H ho=>h2 H ho.out⟩
theorem shareR_ok {k : Nat} {F : Nat → List Int → Int} {iv : Nat → Int × Int} {rs : List Ref} : ∀ {l : List Nat} {t : List (Nat × Ref)} {g g' : Gl},shareR k F iv rs l g = (t,g') → (Good I X E g' → Good I X E g) ∧ (Good I X E g' → OutOk k F iv rs E Ef → ∀ p ∈ t,p.2.val E = Ef p.1)
 | [],t,g,g',h=>by
  simp only [shareR] at h
  injection h with e1 e2; subst e1; subst e2
  exact ⟨fun H=>H,fun _ _ p hp=>by cases hp⟩
 | i :: l,t,g,g',h=>by
  simp only [shareR] at h
  rcases h1 : outR k F iv rs (.e i) g with ⟨r,g1⟩
  simp only [h1] at h
  rcases h2 : shareR k F iv rs l g1 with ⟨t2,g2⟩
  simp only [h2] at h
  injection h with e1 e2; subst e1; subst e2
  obtain ⟨k1,k2⟩ := outR_ok (I := I) (X := X) (E := E) (Ef := Ef) h1
  obtain ⟨q1,q2⟩ := shareR_ok h2
  refine ⟨fun H=>k1 (q1 H),fun H ho p hp=>?_⟩
  rcases List.mem_cons.1 hp with rfl | hp
  ·exact k2 (q1 H) ho
  ·exact q2 H ho p hp
theorem Cv.leaf_ok : ∀ {l z : Leaf} {g g' : Gl},c.leaf l g = some (z,g') → (Good I X E g' → Good I X E g) ∧ (Good I X E g' → CvOk c ρf ρ E Ef → ∀ v,l.sat ρf Ef v → z.sat ρ E v) := by
 intro l
 induction l with
 | int q r =>
  intro z g g' h
  simp only [Cv.leaf] at h
  rcases h1 : c.ref r g with ⟨r1,g1⟩
  simp only [h1] at h
  injection h with h; injection h with e1 e2; subst e1; subst e2
  obtain ⟨k1,k2⟩ := Cv.ref_ok (I := I) (X := X) (E := E) (Ef := Ef) h1
  refine ⟨k1,fun H ho v hv=>?_⟩
  simp only [Leaf.sat] at hv ⊢
  rw [hv,k2 H ho.out]
 | bool r =>
  intro z g g' h
  simp only [Cv.leaf] at h
  rcases h1 : c.ref r g with ⟨r1,g1⟩
  simp only [h1] at h
  injection h with h; injection h with e1 e2; subst e1; subst e2
  obtain ⟨k1,k2⟩ := Cv.ref_ok (I := I) (X := X) (E := E) (Ef := Ef) h1
  refine ⟨k1,fun H ho v hv=>?_⟩
  simp only [Leaf.sat] at hv ⊢
  rw [hv,k2 H ho.out]
 | nilI=>intro z g g' h; simp only [Cv.leaf] at h; injection h with h; injection h with e1 e2; subst e1; subst e2; exact ⟨fun H=>H,fun _ _ _ hv=>hv⟩
 | nilP=>intro z g g' h; simp only [Cv.leaf] at h; injection h with h; injection h with e1 e2; subst e1; subst e2; exact ⟨fun H=>H,fun _ _ _ hv=>hv⟩
 | nilS=>intro z g g' h; simp only [Cv.leaf] at h; injection h with h; injection h with e1 e2; subst e1; subst e2; exact ⟨fun H=>H,fun _ _ _ hv=>hv⟩
 | nilF=>intro z g g' h; simp only [Cv.leaf] at h; injection h with h; injection h with e1 e2; subst e1; subst e2; exact ⟨fun H=>H,fun _ _ _ hv=>hv⟩
 | junk=>intro z g g' h; simp only [Cv.leaf] at h; injection h with h; injection h with e1 e2; subst e1; subst e2; exact ⟨fun H=>H,fun _ _ _ _=>trivial⟩
 | ptr i o =>
  intro z g g' h
  simp only [Cv.leaf] at h
  split at h
  ·rename_i j hj
   injection h with h; injection h with e1 e2; subst e1; subst e2
   exact ⟨fun H=>H,fun _ ho v ⟨L,hL,e⟩=>⟨L,(ho.id i j hj).trans hL,e⟩⟩
  ·cases h
 | slc i o n k =>
  intro z g g' h
  simp only [Cv.leaf] at h
  split at h
  ·rename_i j hj
   injection h with h; injection h with e1 e2; subst e1; subst e2
   exact ⟨fun H=>H,fun _ ho v ⟨L,hL,e⟩=>⟨L,(ho.id i j hj).trans hL,e⟩⟩
  ·cases h
 | slu i o n k =>
  intro z g g' h
  simp only [Cv.leaf] at h
  split at h
  ·rename_i j hj
   injection h with h; injection h with e1 e2; subst e1; subst e2
   exact ⟨fun H=>H,fun _ ho v ⟨L,cap,hL,e⟩=>⟨L,cap,(ho.id i j hj).trans hL,e⟩⟩
  ·cases h
 | sla i o n =>
  intro z g g' h
  simp only [Cv.leaf] at h
  split at h
  ·rename_i j hj
   injection h with h; injection h with e1 e2; subst e1; subst e2
   exact ⟨fun H=>H,fun _ ho v ⟨L,cap,hL,e⟩=>⟨L,cap,(ho.id i j hj).trans hL,e⟩⟩
  ·cases h
 | opq i =>
  intro z g g' h
  simp only [Cv.leaf] at h
  split at h
  ·rename_i hi
   obtain ⟨l,hl,e⟩ := mapv h
   injection e with e1 e2; subst e1; subst e2
   exact ⟨fun H=>H,fun _ ho v ⟨L,hL,e,_⟩=>by rw [e]; exact ho.op i _ hi hl L hL⟩
  ·split at h
   ·rename_i j hj
    injection h with h; injection h with e1 e2; subst e1; subst e2
    exact ⟨fun H=>H,fun _ ho v ⟨L,hL,e⟩=>⟨L,(ho.id i j hj).trans hL,e⟩⟩
   ·cases h
 | opl i n =>
  intro z g g' h
  simp only [Cv.leaf] at h
  split at h
  ·rename_i j hj
   rcases h1 : c.ref n g with ⟨r1,g1⟩
   simp only [h1] at h
   injection h with h; injection h with e1 e2; subst e1; subst e2
   obtain ⟨k1,k2⟩ := Cv.ref_ok (I := I) (X := X) (E := E) (Ef := Ef) h1
   exact ⟨k1,fun H ho v ⟨L,hL,e,a,len,cap,e2,hn⟩=>⟨L,(ho.id i j hj).trans hL,e,a,len,cap,e2,(k2 H ho.out).trans hn⟩⟩
  ·cases h
 | ifc t x ih =>
  intro z g g' h
  simp only [Cv.leaf] at h
  split at h
  ·rename_i y g1 h1
   injection h with h; injection h with e1 e2; subst e1; subst e2
   obtain ⟨k1,k2⟩ := ih h1
   exact ⟨k1,fun H ho v ⟨u,e,hu⟩=>⟨u,e,k2 H ho u hu⟩⟩
  ·cases h
 | mix q a b iha ihb =>
  intro z g g' h
  simp only [Cv.leaf] at h
  rcases h1 : c.ref q g with ⟨c1,g1⟩
  simp only [h1] at h
  split at h
  ·rename_i a1 g2 h2
   split at h
   ·rename_i b1 g3 h3
    injection h with h; injection h with e1 e2; subst e1; subst e2
    obtain ⟨k1,k2⟩ := Cv.ref_ok (I := I) (X := X) (E := E) (Ef := Ef) h1
    obtain ⟨a1,a2⟩ := iha h2
    obtain ⟨b1,b2⟩ := ihb h3
    refine ⟨fun H=>k1 (a1 (b1 H)),fun H ho v hv=>?_⟩
    have hc := k2 (a1 (b1 H)) ho.out
    simp only [Leaf.sat] at hv ⊢
    rw [hc]
    exact ⟨fun h=>a2 (b1 H) ho v (hv.1 h),fun h=>b2 H ho v (hv.2 h)⟩
   ·cases h
  ·cases h
 | _=>intro z g g' h; simp [Cv.leaf] at h
theorem Cv.leafs_ok : ∀ {ls zs : List Leaf} {g g' : Gl},c.leafs ls g = some (zs,g') → (Good I X E g' → Good I X E g) ∧ zs.length = ls.length ∧ (Good I X E g' → CvOk c ρf ρ E Ef → ∀ vs,sats ρf Ef ls vs → sats ρ E zs vs)
 | [],zs,g,g',h=>by
  simp only [Cv.leafs] at h
  injection h with h; injection h with e1 e2; subst e1; subst e2
  exact ⟨fun H=>H,rfl,fun _ _ _ _=>trivial⟩
 | l :: ls,zs,g,g',h=>by
  simp only [Cv.leafs] at h
  split at h
  ·rename_i z g1 h1
   split at h
   ·rename_i ys g2 h2
    injection h with h; injection h with e1 e2; subst e1; subst e2
    obtain ⟨k1,k2⟩ := Cv.leaf_ok (I := I) (X := X) (E := E) (Ef := Ef) (ρ := ρ) (ρf := ρf) h1
    obtain ⟨q1,q2,q3⟩ := Cv.leafs_ok h2
    refine ⟨fun H=>k1 (q1 H),by simp [q2],fun H ho vs hs=>?_⟩
    cases vs with
    | nil=>exact hs.elim
    | cons v vs=>exact ⟨k2 (q1 H) ho v hs.1,q3 H ho vs hs.2⟩
   ·cases h
  ·cases h
theorem Cv.sa_ok {x z : SA} {g g' : Gl} (h : c.sa x g = some (z,g')) : (Good I X E g' → Good I X E g) ∧ (Good I X E g' → CvOk c ρf ρ E Ef → ∀ v,x.sat ρf Ef v → z.sat ρ E v) := by
 cases x with
 | one l =>
  simp only [Cv.sa] at h
  split at h
  ·rename_i y g1 h1
   injection h with h; injection h with e1 e2; subst e1; subst e2
   exact Cv.leaf_ok h1
  ·cases h
 | agg ls =>
  simp only [Cv.sa] at h
  split at h
  ·rename_i y g1 h1
   injection h with h; injection h with e1 e2; subst e1; subst e2
   obtain ⟨q1,q2,q3⟩ := Cv.leafs_ok (I := I) (X := X) (E := E) (Ef := Ef) (ρ := ρ) (ρf := ρf) h1
   exact ⟨q1,fun H ho v ⟨cs,e,hl,hs⟩=>⟨cs,e,by rw [hl,q2],q3 H ho cs hs⟩⟩
  ·cases h
theorem Cv.sas_ok : ∀ {ls zs : List SA} {g g' : Gl},c.sas ls g = some (zs,g') → (Good I X E g' → Good I X E g) ∧ (Good I X E g' → CvOk c ρf ρ E Ef → ∀ vs,satA ρf Ef ls vs → satA ρ E zs vs)
 | [],zs,g,g',h=>by
  simp only [Cv.sas] at h
  injection h with h; injection h with e1 e2; subst e1; subst e2
  exact ⟨fun H=>H,fun _ _ vs hs=>by cases vs; trivial; exact hs.elim⟩
 | l :: ls,zs,g,g',h=>by
  simp only [Cv.sas] at h
  split at h
  ·rename_i z g1 h1
   split at h
   ·rename_i ys g2 h2
    injection h with h; injection h with e1 e2; subst e1; subst e2
    obtain ⟨k1,k2⟩ := Cv.sa_ok (I := I) (X := X) (E := E) (Ef := Ef) (ρ := ρ) (ρf := ρf) h1
    obtain ⟨q1,q3⟩ := Cv.sas_ok h2
    refine ⟨fun H=>k1 (q1 H),fun H ho vs hs=>?_⟩
    cases vs with
    | nil=>exact hs.elim
    | cons v vs=>exact ⟨k2 (q1 H) ho v hs.1,q3 H ho vs hs.2⟩
   ·cases h
  ·cases h
theorem Cv.sv_ok {x z : SV} {g g' : Gl} (h : c.sv x g = some (z,g')) : (Good I X E g' → Good I X E g) ∧ (Good I X E g' → CvOk c ρf ρ E Ef → ∀ v,x.sat ρf Ef v → z.sat ρ E v) := by
 cases x with
 | a x =>
  simp only [Cv.sv] at h
  split at h
  ·rename_i y g1 h1
   injection h with h; injection h with e1 e2; subst e1; subst e2
   exact Cv.sa_ok h1
  ·cases h
 | tup xs =>
  simp only [Cv.sv] at h
  split at h
  ·rename_i y g1 h1
   injection h with h; injection h with e1 e2; subst e1; subst e2
   obtain ⟨q1,q3⟩ := Cv.sas_ok (I := I) (X := X) (E := E) (Ef := Ef) (ρ := ρ) (ρf := ρf) h1
   exact ⟨q1,fun H ho v ⟨vs,e,hs⟩=>⟨vs,e,q3 H ho vs hs⟩⟩
  ·cases h
 | whn cs x=>simp [Cv.sv] at h
theorem Cv.conds_ok : ∀ {l z : List (Ref × Bool)} {g g' : Gl},c.conds l g = (z,g') → (Good I X E g' → Good I X E g) ∧ (Good I X E g' → c.Out E Ef → allC E z = allC Ef l)
 | [],z,g,g',h=>by
  simp only [Cv.conds] at h
  injection h with e1 e2; subst e1; subst e2
  exact ⟨fun H=>H,fun _ _=>rfl⟩
 | (r,y) :: l,z,g,g',h=>by
  simp only [Cv.conds] at h
  rcases h1 : c.ref r g with ⟨r1,g1⟩
  simp only [h1] at h
  rcases h2 : c.conds l g1 with ⟨l1,g2⟩
  simp only [h2] at h
  injection h with e1 e2; subst e1; subst e2
  obtain ⟨k1,k2⟩ := Cv.ref_ok (I := I) (X := X) (E := E) (Ef := Ef) h1
  obtain ⟨q1,q2⟩ := Cv.conds_ok h2
  refine ⟨fun H=>k1 (q1 H),fun H ho=>?_⟩
  show (truth (r1.val E) == y && allC E l1) = (truth (r.val Ef) == y && allC Ef l)
  rw [k2 (q1 H) ho,q2 H ho]
def Become (O : Objs) (ρf ρ : Map) (E Ef : Nat → Int) (c : Cv) (w : World) (b z : SB) : Prop := c.id b.id = some z.id ∧ ρ z.id = ρf b.id ∧ allC E z.cs = allC Ef b.cs ∧ (allC E z.cs = true → Blk O ρ E z w)
theorem Cv.blks_ok : ∀ {bs zs : List SB} {g g' : Gl},c.blks bs g = some (zs,g') → (Good I X E g' → Good I X E g) ∧ (bs.map fun b=>c.id b.id) = (zs.map fun z=>some z.id) ∧
  (Good I X E g' → CvOk c ρf ρ E Ef → (∀ b ∈ bs,allC Ef b.cs = true → Blk O ρf Ef b w) → ∀ z ∈ zs,∃ b ∈ bs,Become O ρf ρ E Ef c w b z)
 | [],zs,g,g',h=>by
  simp only [Cv.blks] at h
  injection h with h; injection h with e1 e2; subst e1; subst e2
  exact ⟨fun H=>H,rfl,fun _ _ _ z hz=>by cases hz⟩
 | b :: bs,zs,g,g',h=>by
  simp only [Cv.blks] at h
  split at h
  ·rename_i j hj
   split at h
   ·rename_i ls g1 h1
    rcases h3 : c.conds b.cs g1 with ⟨q,g3⟩
    simp only [h3] at h
    split at h
    ·rename_i r g2 h2
     injection h with h; injection h with e1 e2; subst e1; subst e2
     obtain ⟨p1,p2,p3⟩ := Cv.leafs_ok (I := I) (X := X) (E := E) (Ef := Ef) (ρ := ρ) (ρf := ρf) h1
     obtain ⟨c1,c2⟩ := Cv.conds_ok (I := I) (X := X) (E := E) (Ef := Ef) h3
     obtain ⟨q1,q2,q3⟩ := Cv.blks_ok h2
     refine ⟨fun H=>p1 (c1 (q1 H)),by simp [hj,q2],fun H ho hb z hz=>?_⟩
     rcases List.mem_cons.1 hz with rfl | hz
     ·have hcs := c2 (q1 H) ho.out
      refine ⟨b,by simp,hj,ho.id _ _ hj,hcs,fun hc=>?_⟩
      obtain ⟨L,vs,k1,k2,k3⟩ := hb b (by simp) (hcs.symm.trans hc)
      have hρ := ho.id _ _ hj
      exact ⟨L,vs,hρ.trans k1,p3 (c1 (q1 H)) ho vs k2,k3⟩
     ·obtain ⟨x,hx,hbc⟩ := q3 H ho (fun y hy=>hb y (List.mem_cons_of_mem _ hy)) z hz
      exact ⟨x,List.mem_cons_of_mem _ hx,hbc⟩
    ·cases h
   ·cases h
  ·cases h
end
structure MS where
 args : List SV
 mem : List SB
 nt : Nat
 ob : Nat
 k : Nat
 dom : List (Nat × Int × Int)
 out : SV
 mem' : List SB
 nt' : Nat
 F : Nat → List Int → Int
 iv : Nat → Int × Int
 gl : List Nat
 es : List Nat := []
def injB (bl : List (Nat × Nat)) : Bool := bl.all fun p=>bl.all fun q=>Nat.beq p.1 q.1 == Nat.beq p.2 q.2
def onceB : List (Nat × Leaf) → Bool
 | []=>true
 | (i,_) :: l=>!l.any (fun p=>Nat.beq p.1 i) && onceB l
def descB : Nat → List SB → Bool
 | _,[]=>true
 | n,b :: l=>Nat.blt b.id n && descB b.id l
def rangeB : Nat → List (Nat × Ref) → Bool
 | _,[]=>true
 | n,(i,_) :: l=>Nat.beq i n && rangeB (n + 1) l
def MS.fin (_S : MS) (bl : List (Nat × Nat)) (m : List SB) : List SB := m.filter fun b=>bl.any fun p=>Nat.beq p.2 b.id
def MS.ctr (S : MS) : Ctr where
 run args m pc g :=
  match mtVs S.ob S.args args with
  | none=>none
  | some d0=>match mtBs S.ob m.bs S.mem (Bd.app ⟨S.gl.map fun i=>(i,i),[],[]⟩ d0) with
   | none=>none
   | some d =>
    if Nat.beq d.en.length S.k && rangeB 0 d.en && injB d.bl && onceB d.op && d.op.all (fun p=>Nat.ble S.ob p.1) && d.bl.all (fun p=>S.mem.any fun b=>Nat.beq b.id p.1) && (S.fin d.bl m.bs).all (fun b=>b.cs.isEmpty) then
     match shareR S.k S.F S.iv (d.en.map (·.2)) S.es (mustAll pc (d.en.map (·.2)) S.dom g) with
     | (tab,g0)=>match (⟨d.bl,d.op,S.ob,S.nt,S.nt',m.nb,S.k,S.F,S.iv,d.en.map (·.2),tab⟩ : Cv).blks S.mem' g0 with
     | none=>none
     | some (fout,g1)=>match (⟨d.bl,d.op,S.ob,S.nt,S.nt',m.nb,S.k,S.F,S.iv,d.en.map (·.2),tab⟩ : Cv).sv S.out g1 with
      | none=>none
      | some (v,g2) =>
       if descB (m.nb + (S.nt' - S.nt)) (applyB (S.fin d.bl m.bs) fout m.bs) then some (v,⟨applyB (S.fin d.bl m.bs) fout m.bs,m.nb + (S.nt' - S.nt)⟩,g2) else none
    else none
section
variable {O : Objs} {I : Nat → Int} {X : Nat → List Int → Int} {ρ : Map} {E : Nat → Int} {w : World} {g g' : Gl} {C : Cx}
theorem injB_ok {bl : List (Nat × Nat)} (h : injB bl = true) {i j i' j' : Nat} (h1 : (i,j) ∈ bl) (h2 : (i',j') ∈ bl) : i = i' ↔ j = j' := by
 have := List.all_eq_true.1 (List.all_eq_true.1 h _ h1) _ h2
 simp only [beq_iff_eq] at this
 constructor
 ·intro e
  rw [e,Nat.beq_refl] at this
  exact Nat.eq_of_beq_eq_true this.symm
 ·intro e
  rw [e,Nat.beq_refl] at this
  exact Nat.eq_of_beq_eq_true this
theorem onceB_ok : ∀ {l : List (Nat × Leaf)},onceB l = true → (l.map (·.1)).Nodup
 | [],_=>List.nodup_nil
 | (i,x) :: l,h=>by
  simp only [onceB,Bool.and_eq_true,Bool.not_eq_true',List.any_eq_false] at h
  refine List.nodup_cons.2 ⟨fun hm=>?_,onceB_ok h.2⟩
  obtain ⟨p,hp,e⟩ := List.mem_map.1 hm
  have := h.1 p hp
  rw [e,Nat.beq_refl] at this
  exact this rfl
theorem descB_ok : ∀ {n : Nat} {l : List SB},descB n l = true → l.Pairwise (fun a b=>b.id < a.id) ∧ ∀ b ∈ l,b.id < n
 | _,[],_=>⟨List.Pairwise.nil,fun _ h=>by cases h⟩
 | n,b :: l,h=>by
  simp only [descB,Bool.and_eq_true,Nat.blt_eq] at h
  obtain ⟨k1,k2⟩ := descB_ok h.2
  refine ⟨List.pairwise_cons.2 ⟨k2,k1⟩,fun x hx=>?_⟩
  rcases List.mem_cons.1 hx with rfl | hx
  ·exact h.1
  ·have := k2 x hx; omega
theorem rangeB_ok : ∀ {l : List (Nat × Ref)} {n : Nat},rangeB n l = true → ∀ j x,l[j]? = some x → x.1 = n + j
 | [],_,_,_,_,h=>by simp at h
 | (i,r) :: l,n,h,j,x,hx=>by
  simp only [rangeB,Bool.and_eq_true] at h
  cases j with
  | zero =>
   obtain rfl : (i,r) = x := by simpa using hx
   exact Nat.eq_of_beq_eq_true h.1
  | succ j =>
   have := rangeB_ok h.2 j x (by simpa using hx)
   omega
def ovl (ov : Ov) (i : Nat) : Option Value := (ov.find? (·.1 == i)).map (·.2.2)
theorem ovl_mem {ov : Ov} (hn : (ov.map (·.1)).Nodup) {x : Nat × Leaf × Value} (hx : x ∈ ov) : ovl ov x.1 = some x.2.2 := by
 unfold ovl
 cases hf : ov.find? (·.1 == x.1) with
 | none=>exact absurd (List.find?_eq_none.1 hf x hx) (by simp)
 | some y =>
  have hy := List.mem_of_find?_eq_some hf
  have he : y.1 = x.1 := by simpa using List.find?_some hf
  obtain ⟨i,hi⟩ := List.mem_iff_getElem?.1 hx
  obtain ⟨j,hj⟩ := List.mem_iff_getElem?.1 hy
  have h1 : (ov.map (·.1))[i]? = some x.1 := by rw [List.getElem?_map,hi]; rfl
  have h2 : (ov.map (·.1))[j]? = some x.1 := by rw [List.getElem?_map,hj,← he]; rfl
  have hl : i < (ov.map (·.1)).length := (List.getElem?_eq_some_iff.1 h1).1
  have : i = j := (List.getElem?_inj hl hn).1 (h1.trans h2.symm)
  subst this
  rw [hi] at hj
  injection hj with hj
  rw [hj]; rfl
theorem lkpL_mem : ∀ {l : List (Nat × Leaf)} {i : Nat} {x : Leaf},lkpL l i = some x → (i,x) ∈ l
 | [],_,_,h=>by cases h
 | (a,b) :: l,i,j,h=>by
  simp only [lkpL] at h
  split at h
  ·rename_i ha
   injection h with h; subst h
   rw [Nat.eq_of_beq_eq_true ha]; simp
  ·exact List.mem_cons_of_mem _ (lkpL_mem h)
theorem lkp_some : ∀ {l : List (Nat × Nat)} {i j : Nat},(i,j) ∈ l → ∃ k,lkp l i = some k
 | [],_,_,h=>by cases h
 | (a,b) :: l,i,j,h=>by
  simp only [lkp]
  split
  ·exact ⟨b,rfl⟩
  ·rename_i ha
   rcases List.mem_cons.1 h with e | h
   ·injection e with e1 e2; subst e1; rw [Nat.beq_refl] at ha; exact absurd rfl ha
   ·exact lkp_some h
theorem mtBs_in {ob : Nat} {m : List SB} : ∀ {ps : List SB} {d0 d : Bd},mtBs ob m ps d0 = some d → (∀ x ∈ d0.bl,x ∈ d.bl) ∧ ∀ pb ∈ ps,∃ ab ∈ m,(pb.id,ab.id) ∈ d.bl
 | [],d0,d,h=>by
  simp only [mtBs] at h
  injection h with h; subst h
  exact ⟨fun _ h=>h,fun pb hpb=>by cases hpb⟩
 | pb :: ps,d0,d,h=>by
  simp only [mtBs] at h
  split at h
  ·rename_i j hj
   split at h
   ·rename_i ab hab
    split at h
    ·split at h
     ·rename_i e he
      obtain ⟨k1,k2⟩ := mtBs_in h
      obtain ⟨a1,a2⟩ := findB_ok hab
      refine ⟨fun x hx=>k1 x (List.mem_append_left _ hx),fun x hx=>?_⟩
      rcases List.mem_cons.1 hx with rfl | hx
      ·refine ⟨ab,a1,k1 _ (List.mem_append_left _ ?_)⟩
       rw [a2]; exact lkp_mem hj
      ·exact k2 x hx
     ·cases h
    ·cases h
   ·cases h
  ·cases h
theorem Cv.blks_good {c : Cv} : ∀ {bs zs : List SB} {g g' : Gl},c.blks bs g = some (zs,g') → (Good I X E g' → Good I X E g) ∧ ∀ z ∈ zs,∃ b ∈ bs,c.id b.id = some z.id
 | [],zs,g,g',h=>by
  simp only [Cv.blks] at h
  injection h with h; injection h with e1 e2; subst e1; subst e2
  exact ⟨fun H=>H,fun z hz=>by cases hz⟩
 | b :: bs,zs,g,g',h=>by
  simp only [Cv.blks] at h
  split at h
  ·rename_i j hj
   split at h
   ·rename_i ls g1 h1
    rcases h3 : c.conds b.cs g1 with ⟨q,g3⟩
    simp only [h3] at h
    split at h
    ·rename_i r g2 h2
     injection h with h; injection h with e1 e2; subst e1; subst e2
     obtain ⟨p1,_,_⟩ := Cv.leafs_ok (I := I) (X := X) (E := E) (Ef := fun _=>0) (ρ := fun _=>none) (ρf := fun _=>none) h1
     obtain ⟨c1,_⟩ := Cv.conds_ok (I := I) (X := X) (E := E) (Ef := fun _=>0) h3
     obtain ⟨q1,q2⟩ := Cv.blks_good h2
     refine ⟨fun H=>p1 (c1 (q1 H)),fun z hz=>?_⟩
     rcases List.mem_cons.1 hz with rfl | hz
     ·exact ⟨b,by simp,hj⟩
     ·obtain ⟨x,hx,e⟩ := q2 z hz
      exact ⟨x,List.mem_cons_of_mem _ hx,e⟩
    ·cases h
   ·cases h
  ·cases h
def patMap (ρ : Map) (bl : List (Nat × Nat)) (ov : Ov) (nt ob : Nat) : Map := fun i =>
 if i < nt then (lkp bl i).bind ρ else if ob ≤ i then (ovl ov i).map fun v=>⟨0,0,fun _=>False,v⟩ else none
def backMap (ρ ρf : Map) (bl : List (Nat × Nat)) (nt nu nb : Nat) : Map := fun j =>
 if nb ≤ j ∧ j < nb + (nu - nt) then ρf (nt + (j - nb)) else
 match bl.find? (fun p=>Nat.beq p.2 j) with
 | some p=>ρf p.1
 | none=>ρ j
theorem MS.of (S : MS) {f : FuncId} (hbody : ∃ fn b,C.P.funcs[f]? = some fn ∧ fn.body = some b) (hWt : WF ⟨S.mem,S.nt⟩) (hnt : S.nt ≤ S.nt') (hob : S.nt' ≤ S.ob) (hglob : ∀ gl id,C.glob gl = some id → id ∈ S.gl)
  (_hids : ∀ b ∈ S.mem',(∃ b0 ∈ S.mem,b0.id = b.id) ∨ (S.nt ≤ b.id ∧ b.id < S.nt'))
  (hcalls : ∀ xs : List Int,xs.length = S.k → InDom S.dom (ofL xs) → ∀ Ef : Nat → Int,(∀ i,i < S.k → Ef i = xs.getD i 0) → (∀ i,S.k ≤ i → Ef i = clampI (S.iv i).1 (S.iv i).2 (S.F i xs)) →
   ∀ ρ vs w,satVs ρ Ef S.args vs → GlobOk C ρ → M O ρ Ef S.mem w → Fresh ρ S.nt S.nt' → Calls C.P f vs.toArray w fun e w'=>∃ ρ' u,e = .returned u ∧ S.out.sat ρ' Ef u ∧ M O ρ' Ef S.mem' w' ∧ Ext ρ ρ' ⟨S.mem,S.nt⟩ ⟨S.mem',S.nt'⟩ w w') :
  ∀ I X E,CtrOk C O I X E f S.ctr := fun I X E args m pc g v m1 g' h=>by
 unfold MS.ctr at h
 simp only at h
 split at h
 ·cases h
 rename_i d0 hd0
 split at h
 ·cases h
 rename_i d hd
 split at h
 rotate_left
 ·cases h
 rename_i hc
 simp only [Bool.and_eq_true] at hc
 obtain ⟨⟨⟨⟨⟨⟨hlen,hrange⟩,hinj⟩,honce⟩,hopge⟩,hblm⟩,hfcs⟩ := hc
 have hfc : ∀ b ∈ S.fin d.bl m.bs,b.cs = [] := fun b hb=>by
  have := List.all_eq_true.1 hfcs b hb
  cases h : b.cs with
  | nil=>rfl
  | cons _ _=>rw [h] at this; cases this
 rcases hshr : shareR S.k S.F S.iv (d.en.map (·.2)) S.es (mustAll pc (d.en.map (·.2)) S.dom g) with ⟨tab,g0⟩
 simp only [hshr] at h
 split at h
 ·cases h
 rename_i fout g1 hblks
 split at h
 ·cases h
 rename_i v2 g2 hsv
 split at h
 rotate_left
 ·cases h
 rename_i hdesc
 injection h with h; injection h with e1 e; injection e with e2 e3; subst e1; subst e2; subst e3
 generalize hcv : (⟨d.bl,d.op,S.ob,S.nt,S.nt',m.nb,S.k,S.F,S.iv,d.en.map (·.2),tab⟩ : Cv) = c at hblks hsv
 have hlen := Nat.eq_of_beq_eq_true hlen
 have inj := fun {i j i' j' : Nat}=>injB_ok hinj (i := i) (j := j) (i' := i') (j' := j')
 obtain ⟨bg1,bg2⟩ := Cv.blks_good (I := I) (X := X) (E := E) hblks
 have sg := (Cv.sv_ok (I := I) (X := X) (E := E) (ρ := fun _=>none) (ρf := fun _=>none) (Ef := fun _=>0) hsv).1
 have hgood : Good I X E g2 → Good I X E g := fun H=>(mustAll_ok ((shareR_ok (Ef := fun _=>0) hshr).1 (bg1 (sg H)))).1
 obtain ⟨hin0,hin⟩ := mtBs_in hd
 have hblS : ∀ x ∈ d.bl,∃ pb ∈ S.mem,pb.id = x.1 := fun x hx=>by
  have := List.all_eq_true.1 hblm x hx
  simp only [List.any_eq_true] at this
  obtain ⟨pb,h1,h2⟩ := this
  exact ⟨pb,h1,Nat.eq_of_beq_eq_true h2⟩
 have hblnt : ∀ x ∈ d.bl,x.1 < S.nt := fun x hx=>by
  obtain ⟨pb,h1,h2⟩ := hblS x hx
  rw [← h2]; exact hWt.2 pb h1
 have hblmb : ∀ x ∈ d.bl,∃ ab ∈ m.bs,ab.id = x.2 := fun x hx=>by
  obtain ⟨pb,h1,h2⟩ := hblS x hx
  obtain ⟨ab,a1,a2⟩ := hin pb h1
  exact ⟨ab,a1,(inj a2 hx).1 h2⟩
 have cid : ∀ i j,c.id i = some j → (i < S.nt ∧ (i,j) ∈ d.bl) ∨ (S.nt ≤ i ∧ i < S.nt' ∧ j = m.nb + (i - S.nt)) := fun i j h=>by
  subst hcv
  unfold Cv.id at h
  simp only at h
  split at h
  ·rename_i hi
   exact .inl ⟨hi,lkp_mem h⟩
  ·split at h
   ·rename_i h1 h2
    injection h with h
    exact .inr ⟨by omega,h2,h.symm⟩
   ·cases h
 have hfin : ∀ x ∈ d.bl,x.2 ∈ idsOf (S.fin d.bl m.bs) := fun x hx=>by
  obtain ⟨ab,a1,a2⟩ := hblmb x hx
  refine mem_idsOf.2 ⟨ab,List.mem_filter.2 ⟨a1,?_⟩,a2⟩
  simp only [List.any_eq_true]
  exact ⟨x,hx,by rw [a2]; exact Nat.beq_refl _⟩
 have hfin2 : ∀ b ∈ S.fin d.bl m.bs,b ∈ m.bs ∧ ∃ x ∈ d.bl,x.2 = b.id := fun b hb=>by
  obtain ⟨h1,h2⟩ := List.mem_filter.1 hb
  simp only [List.any_eq_true] at h2
  obtain ⟨x,hx,e⟩ := h2
  exact ⟨h1,x,hx,Nat.eq_of_beq_eq_true e⟩
 have hnew : ∀ z ∈ fout,(∃ x ∈ d.bl,x.2 = z.id) ∨ (m.nb ≤ z.id ∧ z.id < m.nb + (S.nt' - S.nt)) := fun z hz=>by
  obtain ⟨b,_,e⟩ := bg2 z hz
  rcases cid _ _ e with ⟨_,h2⟩ | ⟨h1,h2,h3⟩
  ·exact .inl ⟨_,h2,rfl⟩
  ·exact .inr (by omega)
 obtain ⟨wf1,wf2⟩ := descB_ok hdesc
 have hm' : ∀ b ∈ applyB (S.fin d.bl m.bs) fout m.bs,(∃ b0 ∈ m.bs,b0.id = b.id) ∨ (m.nb ≤ b.id ∧ b.id < m.nb + (S.nt' - S.nt)) := fun b hb=>by
  rcases applyB_mem hb with ⟨h1,_⟩ | ⟨_,_,b0,h3,h4,_⟩ | ⟨h1,_⟩
  ·rcases hnew b h1 with ⟨x,hx,e⟩ | h
   ·obtain ⟨ab,a1,a2⟩ := hblmb x hx
    exact .inl ⟨ab,a1,a2.trans e⟩
   ·exact .inr h
  ·exact .inl ⟨b0,h3,h4⟩
  ·exact .inl ⟨b,h1,rfl⟩
 refine ⟨hbody,fun _=>⟨hgood,Nat.le_add_right _ _,hm',fun _=>⟨wf1,wf2⟩⟩,fun H ρ vs w hs hG hM hW hp hf=>?_⟩
 simp only at hf
 obtain ⟨e,hde,hMt2⟩ := mtBs_ok hM hd
 obtain ⟨ov,o1,o2,o3⟩ := (mtVs_ok hd0 hs).app hMt2
 have dop : d.op = (d0.app e).op := by rw [hde]; simp [Bd.app]
 have den : d.en = (d0.app e).en := by rw [hde]; simp [Bd.app]
 have dbl : d.bl = (S.gl.map fun i=>(i,i)) ++ (d0.app e).bl := by rw [hde]; simp [Bd.app]
 have hop : ∀ x ∈ ov,(x.1,x.2.1) ∈ d.op := fun x hx=>by
  rw [dop,← o1]
  exact List.mem_map.2 ⟨x,hx,rfl⟩
 have hopr : ∀ i l,(i,l) ∈ d.op → ∃ x ∈ ov,x.1 = i ∧ x.2.1 = l := fun i l h=>by
  rw [dop,← o1] at h
  obtain ⟨x,hx,e⟩ := List.mem_map.1 h
  injection e with e1 e2
  exact ⟨x,hx,e1,e2⟩
 have hnod : (ov.map (·.1)).Nodup := by
  have := onceB_ok honce
  rw [dop,← o1,List.map_map] at this
  exact this
 have hblW : ∀ x ∈ d.bl,x.2 < m.nb := fun x hx=>by
  obtain ⟨ab,a1,a2⟩ := hblmb x hx
  rw [← a2]; exact hW.2 ab a1
 let rs : List Ref := d.en.map (·.2)
 let xs : List Int := rs.map (Ref.val E)
 have hxl : xs.length = S.k := by simp only [xs,rs,List.length_map]; exact hlen
 let Ef : Nat → Int := fun i=>if i < S.k then xs.getD i 0 else clampI (S.iv i).1 (S.iv i).2 (S.F i xs)
 have hshg : Good I X E (mustAll pc (d.en.map (·.2)) S.dom g) := (shareR_ok (Ef := fun _=>0) hshr).1 (bg1 (sg H))
 have hmust := mustAll_ok hshg
 have hdom : InDom S.dom (ofL xs) := fun p hpm=>by
  have := hmust.2 hp p hpm
  unfold ofL
  rw [show xs.getD p.1 0 = (rs.getD p.1 (.c 0)).val E from getD_map_val]
  exact this
 let ρf : Map := patMap ρ d.bl ov S.nt S.ob
 have hρf : ∀ x ∈ d.bl,ρf x.1 = ρ x.2 := fun x hx=>by
  show patMap ρ d.bl ov S.nt S.ob x.1 = ρ x.2
  unfold patMap
  rw [if_pos (hblnt x hx)]
  obtain ⟨k,hk⟩ := lkp_some hx
  have := (inj (lkp_mem hk) hx).1 rfl
  rw [hk,this]; rfl
 have hbinds : Binds ρ ρf E Ef (d0.app e).bl ov (d0.app e).en := by
  refine ⟨fun x hx=>hρf x (by rw [dbl]; exact List.mem_append_right _ hx),fun x hx=>?_,fun x hx=>?_⟩
  ·have h1 : S.ob ≤ x.1 := by
    have := List.all_eq_true.1 hopge _ (hop x hx)
    exact Nat.le_of_ble_eq_true this
   refine ⟨⟨0,0,fun _=>False,x.2.2⟩,?_,rfl⟩
   show patMap ρ d.bl ov S.nt S.ob x.1 = _
   unfold patMap
   rw [if_neg (by omega),if_pos h1,ovl_mem hnod hx]; rfl
  ·rw [← den] at hx
   obtain ⟨j,hj⟩ := List.mem_iff_getElem?.1 hx
   have hxj := rangeB_ok hrange j x hj
   have hjk : j < S.k := by rw [← hlen]; exact (List.getElem?_eq_some_iff.1 hj).1
   have e1 : x.1 = j := by omega
   show (if x.1 < S.k then xs.getD x.1 0 else _) = x.2.val E
   rw [e1,if_pos hjk]
   simp only [xs,rs,List.map_map]
   rw [List.getD_eq_getElem?_getD,List.getElem?_map,hj]
   rfl
 obtain ⟨hargs,hpat0⟩ := o3 ρf Ef hbinds
 have hpat := hpat0 hρf
 have hMf : M O ρf Ef S.mem w := by
  refine ⟨fun b hb _=>(hpat b hb).1,fun b hb b' hb' _ _ hne L L' hL hL'=>?_,fun b hb _ L hL=>?_⟩
  ·obtain ⟨_,ab,a1,a2,_,ac⟩ := hpat b hb
   obtain ⟨_,ab',a1',a2',_,ac'⟩ := hpat b' hb'
   have h1 := hρf _ a2
   have h2 := hρf _ a2'
   simp only at h1 h2
   rw [h1] at hL
   rw [h2] at hL'
   exact hM.disj ab a1 ab' a1' (allC_nil ac) (allC_nil ac') (fun e=>hne ((inj a2 a2').2 e)) L L' hL hL'
  ·obtain ⟨_,ab,a1,a2,_,ac⟩ := hpat b hb
   have h1 := hρf _ a2
   simp only at h1
   rw [h1] at hL
   exact hM.low ab a1 (allC_nil ac) L hL
 have hGf : GlobOk C ρf := fun gl id hid=>by
  obtain ⟨L,hL,e⟩ := hG gl id hid
  have hm : (id,id) ∈ d.bl := by
   rw [dbl]
   exact List.mem_append_left _ (List.mem_map.2 ⟨id,hglob gl id hid,rfl⟩)
  exact ⟨L,(hρf _ hm).trans hL,e⟩
 have hFf : Fresh ρf S.nt S.nt' := fun i h1 h2=>by
  show patMap ρ d.bl ov S.nt S.ob i = none
  unfold patMap
  rw [if_neg (by omega),if_neg (by omega)]
 refine Calls.mono (hcalls xs hxl hdom Ef (fun i hi=>by simp only [Ef,if_pos hi]) (fun i hi=>by simp only [Ef]; rw [if_neg (by omega)]) ρf vs w hargs hGf hMf hFf) fun en w' he=>?_
 obtain ⟨ρ',u,rfl,k1,k2,k3⟩ := he
 let ρ2 : Map := backMap ρ ρ' d.bl S.nt S.nt' m.nb
 have f1 : ∀ x ∈ d.bl,ρ2 x.2 = ρ' x.1 := fun x hx=>by
  show backMap ρ ρ' d.bl S.nt S.nt' m.nb x.2 = ρ' x.1
  unfold backMap
  have := hblW x hx
  rw [if_neg (by omega)]
  cases hq : d.bl.find? (fun p=>Nat.beq p.2 x.2) with
  | none=>exact absurd (List.find?_eq_none.1 hq x hx) (by simp)
  | some p =>
   have h1 := List.mem_of_find?_eq_some hq
   have h2 : Nat.beq p.2 x.2 = true := by simpa using List.find?_some hq
   simp only
   rw [(inj h1 hx).2 (Nat.eq_of_beq_eq_true h2)]
 have f2 : ∀ i,S.nt ≤ i → i < S.nt' → ρ2 (m.nb + (i - S.nt)) = ρ' i := fun i h1 h2=>by
  show backMap ρ ρ' d.bl S.nt S.nt' m.nb _ = ρ' i
  unfold backMap
  rw [if_pos (by omega)]
  congr 1; omega
 have f3 : ∀ j,¬ (m.nb ≤ j ∧ j < m.nb + (S.nt' - S.nt)) → (∀ x ∈ d.bl,x.2 ≠ j) → ρ2 j = ρ j := fun j h1 h2=>by
  show backMap ρ ρ' d.bl S.nt S.nt' m.nb j = ρ j
  unfold backMap
  rw [if_neg h1]
  cases hq : d.bl.find? (fun p=>Nat.beq p.2 j) with
  | none=>rfl
  | some p =>
   have h3 : Nat.beq p.2 j = true := by simpa using List.find?_some hq
   exact absurd (Nat.eq_of_beq_eq_true h3) (h2 p (List.mem_of_find?_eq_some hq))
 have hlk : Lk ρ ρ2 := fun j L hL=>by
  by_cases hfr : m.nb ≤ j ∧ j < m.nb + (S.nt' - S.nt)
  ·rw [hf j hfr.1 hfr.2] at hL; cases hL
  ·by_cases hb : ∃ x ∈ d.bl,x.2 = j
   ·obtain ⟨x,hx,rfl⟩ := hb
    obtain ⟨L',h1,h2⟩ := k3.le x.1 L ((hρf x hx).trans hL)
    exact ⟨L',(f1 x hx).trans h1,h2⟩
   ·exact ⟨L,(f3 j hfr fun x hx e=>hb ⟨x,hx,e⟩).trans hL,rfl,rfl,rfl⟩
 have hcvok : CvOk c ρ' ρ2 E Ef := by
  refine ⟨fun i j hij=>?_,fun i l hi hl L hL=>?_,?_⟩
  ·rcases cid i j hij with ⟨_,h2⟩ | ⟨h1,h2,h3⟩
   ·exact f1 _ h2
   ·rw [h3]; exact f2 i h1 h2
  ·have hl' : (i,l) ∈ d.op := by rw [← hcv] at hl; exact lkpL_mem hl
   have hi' : S.ob ≤ i := by rw [← hcv] at hi; exact hi
   obtain ⟨x,hx,rfl,rfl⟩ := hopr i l hl'
   obtain ⟨L0,g1,g2⟩ := hbinds.op x hx
   obtain ⟨L1,g3,_,_,g4⟩ := k3.le _ _ g1
   rw [hL] at g3
   obtain rfl : L = L1 := by injection g3
   rw [g4,g2]
   exact Leaf.mono hlk _ (o2 x hx).1
  ·rw [← hcv]
   have hout : OutOk S.k S.F S.iv (d.en.map (·.2)) E Ef := by
    refine ⟨fun i hi=>?_,fun i hi=>?_⟩
    ·simp only [Ef,if_pos hi]
     exact getD_map_val
    ·simp only [Ef]
     rw [if_neg (by omega)]
   exact ⟨hout,(shareR_ok hshr).2 (bg1 (sg H)) hout⟩
 have hv := (Cv.sv_ok (I := I) (X := X) (E := E) (ρ := ρ2) (ρf := ρ') (Ef := Ef) hsv).2 H hcvok u k1
 obtain ⟨_,_,hbk⟩ := Cv.blks_ok (O := O) (I := I) (X := X) (E := E) (ρ := ρ2) (ρf := ρ') (Ef := Ef) (w := w') hblks
 have hbk := hbk (sg H) hcvok k2.blk
 have hMo : M O ρ2 E fout w' := by
  refine ⟨fun z hz hc=>?_,fun z hz z' hz' hc hc' hne L L' hL hL'=>?_,fun z hz hc L hL=>?_⟩
  ·obtain ⟨_,_,h⟩ := hbk z hz
   exact h.2.2.2 hc
  ·obtain ⟨b,hb,b1,b2,b3,_⟩ := hbk z hz
   obtain ⟨b',hb',b1',b2',b3',_⟩ := hbk z' hz'
   rw [b2] at hL
   rw [b2'] at hL'
   refine k2.disj b hb b' hb' (b3.symm.trans hc) (b3'.symm.trans hc') (fun e=>?_) L L' hL hL'
   rw [e,b1'] at b1
   injection b1 with b1
   exact hne b1.symm
  ·obtain ⟨b,hb,b1,b2,b3,_⟩ := hbk z hz
   rw [b2] at hL
   exact k2.low b hb (b3.symm.trans hc) L hL
 have hEx : Ext ρ ρ2 ⟨S.fin d.bl m.bs,m.nb⟩ ⟨fout,m.nb + (S.nt' - S.nt)⟩ w w' := by
  have up : ∀ n : Nat,(∃ b ∈ S.mem,∃ L0,ρf b.id = some L0 ∧ L0.own n) → ∃ b ∈ S.fin d.bl m.bs,∃ L0,ρ b.id = some L0 ∧ L0.own n := fun n ⟨b,hb,L0,h1,h2⟩=>by
   obtain ⟨_,ab,a1,a2,_⟩ := hpat b hb
   have h3 := hρf _ a2
   simp only at h3
   rw [h3] at h1
   refine ⟨ab,List.mem_filter.2 ⟨a1,?_⟩,L0,h1,h2⟩
   simp only [List.any_eq_true]
   exact ⟨_,a2,Nat.beq_refl _⟩
  refine ⟨hlk,k3.size,fun n hn hno=>k3.keep n hn fun b hb L hL hown=>?_,fun j=>?_,fun j L hL hne x hx=>?_,k3.io⟩
  ·obtain ⟨b',hb',L0,h1,h2⟩ := up n ⟨b,hb,L,hL,hown⟩
   exact hno b' hb' L0 h1 h2
  ·by_cases hfr : m.nb ≤ j ∧ j < m.nb + (S.nt' - S.nt)
   ·exact .inl (.inl hfr)
   ·by_cases hb : ∃ x ∈ d.bl,x.2 = j
    ·obtain ⟨x,hx,rfl⟩ := hb
     exact .inl (.inr ⟨hblW x hx,mem_idsOf.1 (hfin x hx)⟩)
    ·exact .inr (f3 j hfr fun x hx e=>hb ⟨x,hx,e⟩)
  ·by_cases hfr : m.nb ≤ j ∧ j < m.nb + (S.nt' - S.nt)
   ·have h1 : ρ2 j = ρ' (S.nt + (j - m.nb)) := by
     have := f2 (S.nt + (j - m.nb)) (by omega) (by omega)
     rw [← this]; congr 1; omega
    rw [h1] at hL
    rcases k3.new _ L hL (by rw [hL,hFf _ (by omega) (by omega)]; simp) x hx with h | h
    ·exact .inl h
    ·exact .inr (up x h)
   ·by_cases hb : ∃ x ∈ d.bl,x.2 = j
    ·obtain ⟨y,hy,rfl⟩ := hb
     rw [f1 y hy] at hL hne
     rcases k3.new _ L hL (by rw [hρf y hy]; exact hne) x hx with h | h
     ·exact .inl h
     ·exact .inr (up x h)
    ·exact absurd (f3 j hfr fun x hx e=>hb ⟨x,hx,e⟩) hne
 have hsame : ∀ b ∈ S.fin d.bl m.bs,m.bs.find? (·.id == b.id) = some b := fun b hb=>find_uniq hW (hfin2 b hb).1
 have hids2 : ∀ b ∈ fout,(∃ b0 ∈ S.fin d.bl m.bs,b0.id = b.id) ∨ ρ b.id = none := fun b hb=>by
  rcases hnew b hb with ⟨x,hx,e⟩ | ⟨h1,h2⟩
  ·rw [← e]; exact .inl (mem_idsOf.1 (hfin x hx))
  ·exact .inr (hf _ h1 h2)
 have hmf := Mf.step (μ' := fun i=>(applyB (S.fin d.bl m.bs) fout m.bs).find? (·.id == i)) hM.mf hsame hfc hMo hEx hids2 hf fun i b hb=>by
  have hbm := List.mem_of_find?_eq_some hb
  have hbi : b.id = i := by simpa using List.find?_some hb
  rcases applyB_mem hbm with ⟨h1,_⟩ | ⟨h1,_⟩ | ⟨h1,h2⟩
  ·exact .inl ⟨h1,hbi⟩
  ·exact .inl ⟨h1,hbi⟩
  ·refine .inr ⟨by rw [← hbi]; exact find_uniq hW h1,fun x hx e=>h2 (mem_idsOf.2 ⟨x,hx,e.trans hbi.symm⟩)⟩
 have hMm : M O ρ2 E (applyB (S.fin d.bl m.bs) fout m.bs) w' := hmf.list fun b hb=>find_uniq (m := ⟨_,m.nb + (S.nt' - S.nt)⟩) ⟨wf1,wf2⟩ hb
 refine ⟨ρ2,u,rfl,hv,hMm,?_⟩
 have h0 := ext_comp (m0 := m) (mE := ⟨applyB (S.fin d.bl m.bs) fout m.bs,m.nb + (S.nt' - S.nt)⟩) (w0 := w) (ρ0 := ρ) ⟨Lk.rfl',Nat.le_refl _,fun _ _ _=>rfl,fun _=>.inr rfl,fun _ _ _ h=>absurd rfl h,Go.RowKit.Below.refl 0 w⟩ hEx (fun b hb=>.inl ⟨b,(hfin2 b hb).1,rfl⟩) (Nat.le_refl _) (Nat.le_refl _) (Nat.le_add_right _ _) fun b hb=>.inl ⟨b,(hfin2 b hb).1,rfl⟩
 exact h0
end
end Go.Proofs.YtbegodiligmphaaGreatDoor.Sy
