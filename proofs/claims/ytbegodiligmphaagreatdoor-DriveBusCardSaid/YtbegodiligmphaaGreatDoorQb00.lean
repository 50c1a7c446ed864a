/- Part of the proof of BusProof. Words for memory: slices of structs that read as lists of rows; small facts on worlds. No program in sight. Plain facts: curves, sine and cosine, turns. Common words of the walks over machines: the value of an error, slices of numbers, curves. The walks of the small functions: clips, ranges, the number of an error, an angle's rest. The walks of sort.SearchInts, of a curve's value, and of the reference's. A symbolic evaluator: symbolic values, definitions, the state, what they say of a world. No program in sight. A symbolic evaluator: slices and objects that are told by conditions. No program in sight. A symbolic evaluator: operations, regions, code, functions. No program in sight. A symbolic evaluator: what the definitions say; joined ways. No program in sight. -/
import Derived.BigQuiet
import Derived.Deep.MidRow
import Derived.Deep.QuietTactic
import Derived.Laws.Bits128
import Derived.Laws.BitsAllLaws
import Derived.Lib.Hide
import Derived.LoopN
import Derived.Orders
import Derived.Scope
import Derived.WalkKit
import Derived.WalkLawsBesides
import Derived.WalkMore
import Derived.WalkSpells
import Derived.Test.YtbegodiligmphaaGreatDoorRows
namespace Go.Proofs.YtbegodiligmphaaGreatDoor
open Go.RowKit
theorem block_of_add (a : Addr) (n : Nat) : (a.add n).block = a.block := by unfold Addr.add; split <;> rfl
structure Sl (w : World) (B size : Nat) (A : Option Addr) (rs : List (List Value)) : Prop where
 len : ∀ r ∈ rs,r.length = size
 at_ : 0 < rs.length → ∃ ad,A = some ad ∧ ad.block < B ∧ ∀ k r,rs[k]? = some r → ∀ j u,r[j]? = some u → w.cell? (ad.add (k * size + j)) = some u
section
variable {w w' : World} {B B' size : Nat} {A : Option Addr} {rs : List (List Value)}
theorem Sl.keep (h : Sl w B size A rs) (hk : ∀ p : Addr,p.block < B → w'.cell? p = w.cell? p) : Sl w' B size A rs :=
 ⟨h.len,fun hn=>by
  obtain ⟨ad,e,hb,hc⟩ := h.at_ hn
  exact ⟨ad,e,hb,fun k r hr j u hu=>(hk _ (by rw [block_of_add]; exact hb)).trans (hc k r hr j u hu)⟩⟩
theorem Sl.below (h : Sl w B size A rs) (hb : Below B w w') : Sl w' B size A rs := h.keep fun _ hp=>hb.cell hp
theorem Sl.cell0 {k : Nat} {r : List Value} {u : Value} (h : Sl w B size A rs) (hk : rs[k]? = some r) (hu : r[0]? = some u) :
  ∃ ad,A = some ad ∧ ad.block < B ∧ w.cell? (ad.add (k * size)) = some u := by
 obtain ⟨ad,e,hb,hc⟩ := h.at_ (by have := (List.getElem?_eq_some_iff.1 hk).1; omega)
 exact ⟨ad,e,hb,hc k r hk 0 u hu⟩
theorem flat_get (size : Nat) : ∀ (rs : List (List Value)),(∀ r ∈ rs,r.length = size) → ∀ (k : Nat) (r : List Value),rs[k]? = some r → ∀ (j : Nat) (u : Value),r[j]? = some u → rs.flatten[k * size + j]? = some u := by
 intro rs
 induction rs with
 | nil=>intro _ k r h; simp at h
 | cons x rs ih =>
  intro hl k r hr j u hu
  have hx : x.length = size := hl x (by simp)
  rw [List.flatten_cons]
  match k with
  | 0 =>
   simp only [List.getElem?_cons_zero,Option.some.injEq] at hr
   subst hr
   rw [Nat.zero_mul,Nat.zero_add,List.getElem?_append_left]
   ·exact hu
   ·exact (List.getElem?_eq_some_iff.1 hu).1
  | k + 1 =>
   rw [List.getElem?_append_right (by rw [hx,Nat.add_mul,Nat.one_mul]; omega)]
   have : (k + 1) * size + j - x.length = k * size + j := by rw [hx,Nat.add_mul,Nat.one_mul]; omega
   rw [this]
   exact ih (fun y hy=>hl y (by simp [hy])) k r (by simpa using hr) j u hu
theorem Sl.of_own {base : Nat} {e : TypeId} {v : Value} {n : Nat} (h : w.ownsRow base e size v n rs.flatten) (hl : ∀ r ∈ rs,r.length = size) (hn : n = rs.length) :
  ∃ A c,v = .slice A n c ∧ Sl w w.heap.size size A rs ∧ ∀ ad,A = some ad → base ≤ ad.block := by
 rcases h.2 with ⟨rfl,rfl⟩ | ⟨g,cap,cur,rfl,hg,hh,_,_,_,_⟩
 ·refine ⟨none,0,rfl,⟨hl,fun h0=>by omega⟩,fun ad h=>by cases h⟩
 ·refine ⟨some ⟨g,0,none⟩,cap,rfl,⟨hl,fun _=>⟨_,rfl,(Array.getElem?_eq_some_iff.1 hh).1,fun k r hr j u hu=>?_⟩⟩,fun ad h=>by injection h with h; subst h; exact hg⟩
  exact h.cells (g := g) rfl _ u (flat_get size rs hl k r hr j u hu)
end
def Blk (w : World) (g : Nat) (t : TypeId) (cs : Array Value) : Prop := w.heap[g]? = some (.cells cs t (0,0))
section
variable {w w' : World} {g : Nat} {t : TypeId} {cs : Array Value}
theorem Blk.lt (h : Blk w g t cs) : g < w.heap.size := by
 rcases Nat.lt_or_ge g w.heap.size with hlt | hge
 ·exact hlt
 ·unfold Blk at h; rw [Array.getElem?_eq_none hge] at h; cases h
theorem Blk.cell (h : Blk w g t cs) (i : Nat) : w.cell? ⟨g,i,none⟩ = cs[i]? := cell_of_row w g i cs t (0,0) h
theorem Blk.frozen (h : Blk w g t cs) (i : Nat) : w.frozen? ⟨g,i,none⟩ = false := by
 unfold Blk at h
 simp [World.frozen?,h]
theorem Blk.new (w : World) (t : TypeId) (cs : Array Value) : Blk (w.alloc (.cells cs t)) w.heap.size t cs := heap_alloc_new w _
theorem Blk.new' {w : World} {t : TypeId} {cs : Array Value} {g : Nat} (hg : g = w.heap.size) : Blk (w.alloc (.cells cs t)) g t cs := by subst hg; exact Blk.new w t cs
theorem Blk.drew (h : Blk w g t cs) : Blk w.drew g t cs := h
theorem Blk.drewN (h : Blk w g t cs) (n : Nat) : Blk (w.drewN n) g t cs := h
theorem Blk.alloc (h : Blk w g t cs) (o : Obj) : Blk (w.alloc o) g t cs := (Below.heap_alloc w o g h.lt).trans h
theorem Blk.set_ (h : Blk w g t cs) (i : Nat) (u : Value) : Blk (w.setCell ⟨g,i,none⟩ u) g t (cs.setIfInBounds i u) := by
 unfold Blk at h ⊢
 simp [World.setCell,Array.getElem?_modify,h]
theorem Blk.far (h : Blk w g t cs) {p : Addr} (hp : g ≠ p.block) (u : Value) : Blk (w.setCell p u) g t cs := (Below.heap_setCell w p u g hp).trans h
theorem Blk.c1 {v0 : Value} (h : Blk w g t #[v0]) : w.cell? ⟨g,0,none⟩ = some v0 := h.cell 0
theorem Blk.c2 {v0 v1 : Value} (h : Blk w g t #[v0,v1]) : w.cell? ⟨g,0,none⟩ = some v0 ∧ w.cell? ⟨g,1,none⟩ = some v1 := ⟨h.cell 0,h.cell 1⟩
theorem Blk.c6 {v0 v1 v2 v3 v4 v5 : Value} (h : Blk w g t #[v0,v1,v2,v3,v4,v5]) : w.cell? ⟨g,0,none⟩ = some v0 ∧ w.cell? ⟨g,1,none⟩ = some v1 ∧ w.cell? ⟨g,2,none⟩ = some v2 ∧ w.cell? ⟨g,3,none⟩ = some v3 ∧ w.cell? ⟨g,4,none⟩ = some v4 ∧ w.cell? ⟨g,5,none⟩ = some v5 := ⟨h.cell 0,h.cell 1,h.cell 2,h.cell 3,h.cell 4,h.cell 5⟩
theorem Blk.c8 {v0 v1 v2 v3 v4 v5 v6 v7 : Value} (h : Blk w g t #[v0,v1,v2,v3,v4,v5,v6,v7]) : w.cell? ⟨g,0,none⟩ = some v0 ∧ w.cell? ⟨g,1,none⟩ = some v1 ∧ w.cell? ⟨g,2,none⟩ = some v2 ∧ w.cell? ⟨g,3,none⟩ = some v3 ∧ w.cell? ⟨g,4,none⟩ = some v4 ∧ w.cell? ⟨g,5,none⟩ = some v5 ∧ w.cell? ⟨g,6,none⟩ = some v6 ∧ w.cell? ⟨g,7,none⟩ = some v7 := ⟨h.cell 0,h.cell 1,h.cell 2,h.cell 3,h.cell 4,h.cell 5,h.cell 6,h.cell 7⟩
theorem Blk.below {B : Nat} (h : Blk w g t cs) (hb : Below B w w') (hg : g < B) : Blk w' g t cs := (hb.block g hg).trans h
theorem Blk.grown {row : Option Nat} (h : Blk w g t cs) (hb : w.grownBy w' row) (hg : some g ≠ row) : Blk w' g t cs := (hb.block g h.lt hg).trans h
end
theorem news_alloc (W : World) (cs : List Value) (e : TypeId) (g : Nat) (hg : g = W.heap.size) : ∀ j u,cs[j]? = some u → (W.alloc (.cells cs.toArray e)).cell? ((⟨g,0,none⟩ : Addr).add j) = some u := by
 intro j u hj
 subst hg
 have hadd : (⟨W.heap.size,0,none⟩ : Addr).add j = ⟨W.heap.size,j,none⟩ := by unfold Addr.add; split <;> simp_all
 rw [hadd,(Blk.new W e cs.toArray).cell j]
 simpa using hj
theorem own_ge {w : World} {base : Nat} {e : TypeId} {size n : Nat} {v : Value} {xs : List Value} (h : w.ownsRow base e size v n xs) : ∀ k,v.ownBlock = some k → base ≤ k := fun k hk=>(h.lt k hk).1
theorem own_ne {w : World} {base : Nat} {e : TypeId} {size n : Nat} {v : Value} {xs : List Value} (h : w.ownsRow base e size v n xs) {g : Nat} (hg : g < base ∨ w.heap.size ≤ g) : some g ≠ v.ownBlock := by
 intro e1
 have := h.lt g e1.symm
 omega
theorem grown_drewN {a w : World} {row : Option Nat} (h : a.grownBy w row) (n : Nat) : a.grownBy (w.drewN n) row := ⟨h.os,h.tape,h.output,h.size,h.block⟩
theorem grown_setCell {a w : World} {g : Nat} (h : a.grownBy w (some g)) {p : Addr} (hp : p.block = g ∨ a.heap.size ≤ p.block) (u : Value) : a.grownBy (w.setCell p u) (some g) :=
 ⟨h.os,h.tape,h.output,by simpa [World.setCell] using h.size,fun i hi hne=>(Below.heap_setCell w p u i (by
  rintro rfl
  rcases hp with hp | hp
  ·exact hne (by rw [hp])
  ·omega)).trans (h.block i hi hne)⟩
theorem below_drewN {B : Nat} {a w : World} (h : Below B a w) (n : Nat) : Below B a (w.drewN n) := ⟨h.os,h.tape,h.output,h.size,h.block⟩
end Go.Proofs.YtbegodiligmphaaGreatDoor
namespace Go.Proofs.YtbegodiligmphaaGreatDoor
def g (X : List Int) (i : Nat) : Int := X.getD i 0
end Go.Proofs.YtbegodiligmphaaGreatDoor
namespace Go.Proofs.YtbegodiligmphaaGreatDoor
open Go.RowKit
def rows (X : List Int) : List (List Value) := X.map fun x=>[Value.int .i64 x]
theorem g_of {X : List Int} {k : Nat} (h : k < X.length) : X[k]? = some (g X k) := by
 unfold g
 rw [List.getD_eq_getElem?_getD,List.getElem?_eq_getElem h]
 rfl
theorem Sl.at1 {w : World} {B : Nat} {A : Option Addr} {X : List Int} {k : Nat} (h : Sl w B 1 A (rows X)) (hk : k < X.length) : ∃ ad p,A = some ad ∧ ad.add k = p ∧ p.block < B ∧ w.cell? p = some (.int .i64 (g X k)) := by
 obtain ⟨ad,rfl,hb,hc⟩ := h.cell0 (k := k) (r := [.int .i64 (g X k)]) (u := .int .i64 (g X k)) (by unfold rows; rw [List.getElem?_map,g_of hk]; rfl) rfl
 rw [Nat.mul_one] at hc
 exact ⟨ad,_,rfl,rfl,by rw [block_of_add]; exact hb,hc⟩
theorem Sl.at1' {w : World} {B : Nat} {ad : Addr} {X : List Int} {k : Nat} (h : Sl w B 1 (some ad) (rows X)) (hk : k < X.length) : ∃ p,ad.add k = p ∧ p.block < B ∧ w.cell? p = some (.int .i64 (g X k)) := by
 obtain ⟨ad',p,e,h1,h2,h3⟩ := h.at1 hk
 injection e with e
 subst e
 exact ⟨p,h1,h2,h3⟩
end Go.Proofs.YtbegodiligmphaaGreatDoor
namespace Go.Proofs.YtbegodiligmphaaGreatDoor
open Go.RowKit
theorem tmod_neg {n k : Int} (h : n < 0) : n.tmod k = -((-n) % k) := by
 have h1 : n = -(-n) := by omega
 rw [h1,Int.neg_tmod,Int.neg_neg,Int.tmod_eq_emod_of_nonneg (by omega)]
end Go.Proofs.YtbegodiligmphaaGreatDoor
namespace Go.Proofs.YtbegodiligmphaaGreatDoor
open Go.RowKit
set_option maxRecDepth 100000 in
set_option maxHeartbeats 1600000 in
theorem search_walk (X : List Int) (ax : Addr) (n c : Nat) (v : Int) (w : World) (SX : Sl w w.heap.size 1 (some ax) (rows X)) (hn : n = X.length) (hm : n ≤ 1000000) (hinc : ∀ i j,i ≤ j → j < X.length → g X i ≤ g X j) :
  Calls Tryz.prog 299 #[.slice (some ax) n c,.int .i64 v] w fun e w'=>∃ k : Nat,e = .returned (.int .i64 k) ∧ k ≤ n ∧ (∀ i,i < k → g X i < v) ∧ (∀ i,k ≤ i → i < n → v ≤ g X i) ∧ Below w.heap.size w w' := by
 have HN := Lib.hid hn
 have HI := Lib.hid hinc
 clear hn hinc
 have hmf : ∀ (fn : Fn) (first cap : Array Value) (w : World),(Instr.makeFunc fn first cap).run Tryz.prog w = .ok (.func fn first cap) w := fun _ _ _ _=>rfl
 have g0 := (Blk.new w 28 #[.slice (some ax) n c]).alloc (.cells #[.int .i64 v] 3)
 have g1 := Blk.new' (w := w.alloc (.cells #[.slice (some ax) n c] 28)) (t := 3) (cs := #[.int .i64 v]) (g := w.heap.size + 1) (by simp)
 have hb0 := ((Below.refl w.heap.size w).alloc (Nat.le_refl _) (.cells #[.slice (some ax) n c] 28)).alloc (by simp) (.cells #[.int .i64 v] 3)
 go_enter Tryz.func299,Tryz.ntmps299
 go_wp2
 go_loopw [5,6] (fun i j wr=>∃ a b : Nat,a ≤ b ∧ b ≤ n ∧ i = .int .i64 a ∧ j = .int .i64 b ∧ Hid (∀ i,i < a → g X i < v) ∧ Hid (∀ i,b ≤ i → i < n → v ≤ g X i) ∧ Blk wr w.heap.size 28 #[.slice (some ax) n c] ∧ Blk wr (w.heap.size + 1) 3 #[.int .i64 v] ∧ Below w.heap.size w wr) (fun i j _=>(intOf j).toNat - (intOf i).toNat)
 case atStart=>exact ⟨0,n,Nat.zero_le _,Nat.le_refl _,rfl,rfl,(fun i h=>by omega),(fun i h h2=>by omega),g0,g1,hb0⟩
 case round =>
 clear g0 g1 hb0
 obtain ⟨a,b,hab,hbn,rfl,rfl,hlo,hhi,g0,g1,hb⟩ := hrel
 by_cases hlt : a < b
 ·obtain ⟨m,hm2⟩ : ∃ m : Nat,(a + b) / 2 = m := ⟨_,rfl⟩
  have hma : a ≤ m := by omega
  have hmb : m < b := by omega
  obtain ⟨p,hpa,hpb,c0⟩ := (SX.below hb).at1' (k := m) (by have := HN.out; omega)
  have hs := hb.size
  have hpb1 : p.block < wr.heap.size := by omega
  have y0 := g0.c1
  have y1 := g1.c1
  have l0 := g0.lt
  have l1 := g1.lt
  have em : ((a : Int) + b) / 2 = (m : Int) := by omega
  have HM := Lib.hid hm2
  clear hm2
  rcases Int.lt_or_le (g X m) v with hv | hv
  ·have dv : decide (v ≤ g X m) = false := decide_eq_false (by omega)
   go_wp2
   go_quiet (fail)
   go_wp2
   go_roundw
   case rel=>exact ⟨m + 1,b,by omega,hbn,by go_num,rfl,(fun i h=>by
    have h1 := HI.out i m (by omega) (by have := HN.out; omega)
    omega),hhi,g0.drewN nq,g1.drewN nq,below_drewN hb nq⟩
   case measure=>simp [intOf]; omega
  ·have dv : decide (v ≤ g X m) = true := decide_eq_true hv
   go_wp2
   go_quiet (fail)
   go_wp2
   go_roundw
   case rel=>exact ⟨a,m,by omega,by omega,rfl,rfl,hlo,(fun i h h2=>by
    have h1 := HI.out m i (by omega) (by have := HN.out; omega)
    omega),g0.drewN nq,g1.drewN nq,below_drewN hb nq⟩
   case measure=>simp [intOf]; omega
 ·obtain rfl : a = b := by omega
  go_wp2
  go_ret
  exact ⟨a,rfl,hbn,hlo.out,hhi.out,hb⟩
end Go.Proofs.YtbegodiligmphaaGreatDoor
namespace Go.Proofs.YtbegodiligmphaaGreatDoor
open Go
namespace Sy
inductive Ref where
 | c (n : Int)
 | e (i : Nat)
 deriving DecidableEq,Repr,Inhabited
def Ref.val (E : Nat → Int) : Ref → Int
 | .c n=>n
 | .e i=>E i
structure Loc where
 n : Nat
 tot : Nat
 own : Nat → Prop
 val : Value
abbrev Map := Nat → Option Loc
inductive Leaf where
 | int (k : IntKind) (r : Ref)
 | bool (r : Ref)
 | ptr (id off : Nat)
 | pdx (id off stride n : Nat) (i : Ref)
 | slc (id off len cap : Nat)
 | slu (id off len size : Nat)
 | sla (id off len : Nat)
 | opq (id : Nat)
 | opl (id : Nat) (n : Ref)
 | nilP | nilI | nilS | nilF
 | ifc (t : TypeId) (x : Leaf)
 | fn (f : FuncId) (caps : Leaf)
 | cons (a b : Leaf)
 | mix (c : Ref) (a b : Leaf)
 | junk
 deriving DecidableEq,Repr,Inhabited
def truth (n : Int) : Bool := n != 0
mutual
def Leaf.sat (ρ : Map) (E : Nat → Int) : Leaf → Value → Prop
 | .int k r,v=>v = .int k (r.val E)
 | .bool r,v=>v = .bool (truth (r.val E))
 | .ptr id off,v=>∃ L,ρ id = some L ∧ v = .pointer (some ⟨L.n,off,none⟩)
 | .pdx id off stride n i,v=>∃ L,ρ id = some L ∧ 0 ≤ i.val E ∧ (i.val E).toNat < n ∧ v = .pointer (some ⟨L.n,off + stride * (i.val E).toNat,none⟩)
 | .slc id off len cap,v=>∃ L,ρ id = some L ∧ v = .slice (some ⟨L.n,off,none⟩) len cap
 | .slu id off len size,v=>∃ L cap,ρ id = some L ∧ off + cap * size = L.tot ∧ len ≤ cap ∧ v = .slice (some ⟨L.n,off,none⟩) len cap
 | .sla id off len,v=>∃ L cap,ρ id = some L ∧ len ≤ cap ∧ v = .slice (some ⟨L.n,off,none⟩) len cap
 | .opq id,v=>∃ L,ρ id = some L ∧ v = L.val ∧ (∀ cs,v ≠ .agg cs) ∧ ∀ vs,v ≠ .tuple vs
 | .opl id n,v=>∃ L,ρ id = some L ∧ v = L.val ∧ ∃ a len cap,v = .slice a len cap ∧ n.val E = (len : Nat)
 | .nilP,v=>v = .pointer none
 | .nilI,v=>v = .nilIface
 | .nilS,v=>v = .slice none 0 0
 | .nilF,v=>v = .nilFunc
 | .ifc t x,v=>∃ u,v = .iface t u ∧ x.sat ρ E u
 | .fn f caps,v=>∃ us : List Value,v = .func (.func f) #[] us.toArray ∧ caps.satc ρ E us
 | .cons _ _,_=>False
 | .mix c a b,v=>(truth (c.val E) = true → a.sat ρ E v) ∧ (truth (c.val E) = false → b.sat ρ E v)
 | .junk,_=>True
def Leaf.satc (ρ : Map) (E : Nat → Int) : Leaf → List Value → Prop
 | .cons a b,u :: us=>a.sat ρ E u ∧ b.satc ρ E us
 | .cons _ _,[]=>False
 | _,us=>us = []
end
def sats (ρ : Map) (E : Nat → Int) : List Leaf → List Value → Prop
 | [],_=>True
 | l :: ls,v :: vs=>l.sat ρ E v ∧ sats ρ E ls vs
 | _ :: _,[]=>False
inductive SA where
 | one (l : Leaf)
 | agg (ls : List Leaf)
 deriving DecidableEq,Repr,Inhabited
def SA.sat (ρ : Map) (E : Nat → Int) : SA → Value → Prop
 | .one l,v=>l.sat ρ E v
 | .agg ls,v=>∃ cs : List Value,v = .agg cs.toArray ∧ cs.length = ls.length ∧ sats ρ E ls cs
def satA (ρ : Map) (E : Nat → Int) : List SA → List Value → Prop
 | [],[]=>True
 | l :: ls,v :: vs=>l.sat ρ E v ∧ satA ρ E ls vs
 | _,_=>False
inductive SV where
 | a (x : SA)
 | tup (xs : List SA)
 | whn (cs : List (Ref × Bool)) (x : SA)
 deriving DecidableEq,Repr,Inhabited
def allC (E : Nat → Int) (cs : List (Ref × Bool)) : Bool := cs.all fun p=>truth (p.1.val E) == p.2
def SV.sat (ρ : Map) (E : Nat → Int) : SV → Value → Prop
 | .a x,v=>x.sat ρ E v
 | .tup xs,v=>∃ vs : List Value,v = .tuple vs.toArray ∧ satA ρ E xs vs
 | .whn cs x,v=>(allC E cs = true → x.sat ρ E v) ∧ (allC E cs = false → v = undef)
def kno : IntKind → Nat
 | .i8=>0 | .i16=>1 | .i32=>2 | .i64=>3 | .u8=>4 | .u16=>5 | .u32=>6 | .u64=>7
theorem kno_ok {k k' : IntKind} (h : Nat.beq (kno k) (kno k') = true) : k = k' := by
 cases k <;> cases k' <;> first | rfl | (simp only [kno] at h; exact absurd h (by decide))
def Ref.same : Ref → Ref → Bool
 | .e i,b=>match b with
  | .e j=>Nat.beq i j
  | .c _=>false
 | .c n,b=>match b with
  | .c m=>decide (n = m)
  | .e _=>false
def Leaf.same : Leaf → Leaf → Bool
 | .int k x,b=>match b with
  | .int k' y=>match x.same y with
   | true=>Nat.beq (kno k) (kno k')
   | false=>false
  | _=>false
 | .bool x,b=>match b with
  | .bool y=>x.same y
  | _=>false
 | .ptr i o,b=>match b with
  | .ptr i' o'=>match Nat.beq i i' with
   | true=>Nat.beq o o'
   | false=>false
  | _=>false
 | .junk,b=>match b with
  | .junk=>true
  | _=>false
 | .nilI,b=>match b with
  | .nilI=>true
  | _=>false
 | .mix c x y,b=>match b with
  | .mix c' x' y'=>match c.same c' with
   | true=>match x.same x' with
    | true=>y.same y'
    | false=>false
   | false=>false
  | _=>false
 | a,b=>decide (a = b)
def sames : List Leaf → List Leaf → Bool
 | [],b=>match b with
  | []=>true
  | _ :: _=>false
 | x :: xs,b=>match b with
  | y :: ys=>match x.same y with
   | true=>sames xs ys
   | false=>false
  | []=>false
def SA.same : SA → SA → Bool
 | .one x,b=>match b with
  | .one y=>x.same y
  | .agg _=>false
 | .agg xs,b=>match b with
  | .agg ys=>sames xs ys
  | .one _=>false
def SV.same : SV → SV → Bool
 | .a x,b=>match b with
  | .a y=>x.same y
  | _=>false
 | x,b=>decide (x = b)
theorem Ref.same_ok {a b : Ref} (h : a.same b = true) : a = b := by
 cases a <;> cases b <;> simp only [Ref.same,decide_eq_true_eq] at h
 ·rw [h]
 ·cases h
 ·cases h
 ·rw [Nat.eq_of_beq_eq_true h]
theorem Leaf.same_ok : ∀ {a b : Leaf},a.same b = true → a = b := by
 intro a
 induction a with
 | mix c x y ihx ihy =>
  intro b h
  simp only [Leaf.same] at h
  split at h
  ·split at h
   ·rename_i hc
    split at h
    ·rename_i hx
     rw [Ref.same_ok hc,ihx hx,ihy h]
    ·cases h
   ·cases h
  ·cases h
 | int k x =>
  intro b h
  simp only [Leaf.same] at h
  split at h
  ·split at h
   ·rename_i hr; rw [Ref.same_ok hr,kno_ok h]
   ·cases h
  ·cases h
 | bool x =>
  intro b h
  simp only [Leaf.same] at h
  split at h
  ·rw [Ref.same_ok h]
  ·cases h
 | ptr i o =>
  intro b h
  simp only [Leaf.same] at h
  split at h
  ·split at h
   ·rename_i hr; rw [Nat.eq_of_beq_eq_true hr,Nat.eq_of_beq_eq_true h]
   ·cases h
  ·cases h
 | junk =>
  intro b h
  simp only [Leaf.same] at h
  split at h
  ·rfl
  ·cases h
 | nilI =>
  intro b h
  simp only [Leaf.same] at h
  split at h
  ·rfl
  ·cases h
 | _=>intro b h; exact of_decide_eq_true h
theorem sames_ok : ∀ {a b : List Leaf},sames a b = true → a = b
 | [],[],_=>rfl
 | [],_ :: _,h=>by cases h
 | _ :: _,[],h=>by cases h
 | x :: xs,y :: ys,h=>by
  simp only [sames] at h
  split at h
  ·rename_i hr; rw [Leaf.same_ok hr,sames_ok h]
  ·cases h
theorem SA.same_ok {a b : SA} (h : a.same b = true) : a = b := by
 cases a <;> cases b <;> simp only [SA.same] at h
 ·rw [Leaf.same_ok h]
 ·cases h
 ·cases h
 ·rw [sames_ok h]
theorem SV.same_ok {a b : SV} (h : a.same b = true) : a = b := by
 unfold SV.same at h
 split at h
 ·split at h
  ·rw [SA.same_ok h]
  ·cases h
 ·exact of_decide_eq_true h
inductive Df where
 | inp (n : Nat)
 | bin (o : BinOp) (k : IntKind) (x y : Ref)
 | wrap (k : IntKind) (x : Ref)
 | not (x : Ref)
 | and (x y : Ref)
 | or (x y : Ref)
 | eqb (x y : Ref)
 | ite (c x y : Ref)
 | sel (xs : List Ref) (i : Ref)
 | mn (x y : Ref)
 | mx (x y : Ref)
 | fn (F : List Int → Int) (lo hi : Int) (xs : List Ref)
 deriving Inhabited
def ofB (b : Bool) : Int := if b then 1 else 0
def intSem (o : BinOp) (k : IntKind) (a b : Int) : Int :=
 match o with
 | .add=>k.wrap (a + b)
 | .sub=>k.wrap (a - b)
 | .mul=>k.wrap (a * b)
 | .quo=>k.wrap (a.tdiv b)
 | .rem=>a.tmod b
 | .and=>k.wrap (BitVec.ofInt k.bits a &&& BitVec.ofInt k.bits b).toNat
 | .or=>k.wrap (BitVec.ofInt k.bits a ||| BitVec.ofInt k.bits b).toNat
 | .xor=>k.wrap (BitVec.ofInt k.bits a ^^^ BitVec.ofInt k.bits b).toNat
 | .andNot=>k.wrap (BitVec.ofInt k.bits a &&& ~~~BitVec.ofInt k.bits b).toNat
 | .shl=>k.wrap (a * 2 ^ (min b.toNat k.bits))
 | .shr=>a.fdiv (2 ^ (min b.toNat k.bits))
 | .eql=>ofB (a == b)
 | .neq=>ofB (a != b)
 | .lss=>ofB (a < b)
 | .leq=>ofB (a ≤ b)
 | .gtr=>ofB (a > b)
 | .geq=>ofB (a ≥ b)
def isCmp : BinOp → Bool
 | .eql | .neq | .lss | .leq | .gtr | .geq=>true
 | _=>false
def clampI (lo hi n : Int) : Int := if hi < lo then n else if lo ≤ n ∧ n ≤ hi then n else lo
def Df.den (I : Nat → Int) (_X : Nat → List Int → Int) (E : Nat → Int) : Df → Int
 | .inp n=>I n
 | .bin o k x y=>intSem o k (x.val E) (y.val E)
 | .wrap k x=>k.wrap (x.val E)
 | .not x=>ofB (!truth (x.val E))
 | .and x y=>ofB (truth (x.val E) && truth (y.val E))
 | .or x y=>ofB (truth (x.val E) || truth (y.val E))
 | .eqb x y=>ofB (truth (x.val E) == truth (y.val E))
 | .ite c x y=>if truth (c.val E) then x.val E else y.val E
 | .sel xs i=>(xs.getD (i.val E).toNat (.c 0)).val E
 | .mn x y=>min (x.val E) (y.val E)
 | .mx x y=>max (x.val E) (y.val E)
 | .fn F lo hi xs=>clampI lo hi (F (xs.map (Ref.val E)))
structure Gl where
 defs : List Df
 nd : Nat
 obl : List (Ref × Ref)
 deriving Inhabited
structure SB where
 id : Nat
 cs : List (Ref × Bool)
 cells : List Leaf
 obj : Option Nat
 deriving DecidableEq,Repr,Inhabited
structure Mem where
 bs : List SB
 nb : Nat
 deriving Repr,Inhabited
structure Lo where
 tmps : List SV
 mem : Mem
 pc : Ref
 deriving Repr,Inhabited
def Gl.push (g : Gl) (d : Df) : Ref × Gl := (.e g.nd,{ g with defs := d :: g.defs,nd := g.nd + 1 })
def Gl.at_ (g : Gl) (i : Nat) : Option Df := if i < g.nd then g.defs[g.nd - 1 - i]? else none
def neverN (g : Gl) (n : Int) : Nat → Ref → Bool
 | 0,_=>false
 | f + 1,r=>match r with
  | .c m=>!(m == n)
  | .e i=>match g.at_ i with
   | some (.ite _ a b)=>neverN g n f a && neverN g n f b
   | _=>false
def Gl.bin (g : Gl) (o : BinOp) (k : IntKind) (x y : Ref) : Ref × Gl :=
 match x,y with
 | .c a,.c b=>(.c (intSem o k a b),g)
 | .e i,.c n=>match o with
  | .eql=>if Nat.ble (g.nd - i) 60 && neverN g n 20 (.e i) then (.c 0,g) else g.push (.bin .eql k (.e i) (.c n))
  | .neq=>if Nat.ble (g.nd - i) 60 && neverN g n 20 (.e i) then (.c 1,g) else g.push (.bin .neq k (.e i) (.c n))
  | o=>g.push (.bin o k (.e i) (.c n))
 | x,y=>g.push (.bin o k x y)
def Gl.not (g : Gl) (x : Ref) : Ref × Gl :=
 match x with
 | .c a=>(.c (ofB (!truth a)),g)
 | x=>g.push (.not x)
def Gl.and (g : Gl) (x y : Ref) : Ref × Gl :=
 match x,y with
 | .c a,y=>if truth a then (y,g) else (.c 0,g)
 | x,.c b=>if truth b then (x,g) else (.c 0,g)
 | x,y=>if x = y then (x,g) else g.push (.and x y)
def Gl.or (g : Gl) (x y : Ref) : Ref × Gl :=
 match x,y with
 | .c a,y=>if truth a then (.c 1,g) else (y,g)
 | x,.c b=>if truth b then (.c 1,g) else (x,g)
 | x,y=>if x = y then (x,g) else g.push (.or x y)
def Gl.eqb (g : Gl) (x y : Ref) : Ref × Gl :=
 match x,y with
 | .c a,.c b=>(.c (ofB (truth a == truth b)),g)
 | x,y=>g.push (.eqb x y)
def Gl.ite (g : Gl) (c x y : Ref) : Ref × Gl :=
 if x = y then (x,g) else
 match c with
 | .c a=>(if truth a then x else y,g)
 | c=>g.push (.ite c x y)
def Gl.must (g : Gl) (pc c : Ref) : Gl :=
 match c with
 | .c a=>if truth a then g else { g with obl := (pc,c) :: g.obl }
 | c=>{ g with obl := (pc,c) :: g.obl }
def joinL (c : Ref) (a b : Leaf) (g : Gl) : Leaf × Gl :=
 if a.same b then (a,g) else
 match a,b with
 | .int k x,.int k' y=>if k = k' then let (r,g) := g.ite c x y; (.int k r,g) else (.mix c a b,g)
 | .bool x,.bool y=>let (r,g) := g.ite c x y; (.bool r,g)
 | .mix d x y,b=>match y.same b with
  | true =>
   let (q,g) := g.and c d
   (.mix q x y,g)
  | false=>(.mix c (.mix d x y) b,g)
 | a,b=>(.mix c a b,g)
def joinLs (c : Ref) : List Leaf → List Leaf → Gl → List Leaf × Gl
 | a :: xs1,b :: ys1,g =>
  let (x,g) := joinL c a b g
  let (xs,g) := joinLs c xs1 ys1 g
  (x :: xs,g)
 | _,_,g=>([],g)
def joinA (c : Ref) (a b : SA) (g : Gl) : Option SA × Gl :=
 if a.same b then (some a,g) else
 match a,b with
 | .one x,.one y=>let (l,g) := joinL c x y g; (some (.one l),g)
 | .agg xs,.agg ys=>if xs.length = ys.length then let (ls,g) := joinLs c xs ys g; (some (.agg ls),g) else (none,g)
 | _,_=>(none,g)
def joinAs (c : Ref) : List SA → List SA → Gl → Option (List SA) × Gl
 | [],[],g=>(some [],g)
 | a :: xs1,b :: ys1,g =>
  match joinA c a b g with
  | (some x,g)=>match joinAs c xs1 ys1 g with
   | (some xs,g)=>(some (x :: xs),g)
   | (none,g)=>(none,g)
  | (none,g)=>(none,g)
 | _,_,g=>(none,g)
def joinV (c : Ref) (a b : SV) (g : Gl) : SV × Gl :=
 if a.same b then (a,g) else
 match a,b with
 | .a x,.a y=>match joinA c x y g with | (some z,g)=>(.a z,g) | (none,g)=>(.a (.one .junk),g)
 | .tup xs,.tup ys=>match joinAs c xs ys g with | (some zs,g)=>(.tup zs,g) | (none,g)=>(.a (.one .junk),g)
 | _,_=>(.a (.one .junk),g)
def joinVs (c : Ref) : List SV → List SV → Gl → List SV × Gl
 | a :: xs1,b :: ys1,g =>
  let (x,g) := joinV c a b g
  let (xs,g) := joinVs c xs1 ys1 g
  (x :: xs,g)
 | _,_,g=>([],g)
def SB.under (p : Ref × Bool) (b : SB) : SB := { b with cs := p :: b.cs }
def sameCs : List (Ref × Bool) → List (Ref × Bool) → Bool
 | [],b=>match b with
  | []=>true
  | _ :: _=>false
 | (r,x) :: l,b=>match b with
  | (q,y) :: k=>r.same q && (x == y) && sameCs l k
  | []=>false
theorem sameCs_ok : ∀ {a b : List (Ref × Bool)},sameCs a b = true → a = b
 | [],[],_=>rfl
 | [],_ :: _,h=>by cases h
 | _ :: _,[],h=>by cases h
 | (r,x) :: l,(q,y) :: k,h=>by
  simp only [sameCs,Bool.and_eq_true,beq_iff_eq] at h
  rw [Ref.same_ok h.1.1,h.1.2,sameCs_ok h.2]
def conjK : List (Ref × Bool) → Gl → Ref × Gl
 | [],g=>(.c 1,g)
 | (r,y) :: l,g =>
  let (q,g) := conjK l g
  match y with
  | true=>g.and r q
  | false =>
   let (s,g) := g.not r
   g.and s q
def mixC (c : Ref) (a b : List (Ref × Bool)) (g : Gl) : List (Ref × Bool) × Gl :=
 match sameCs a b with
 | true=>(b,g)
 | false =>
  let (x,g) := conjK a g
  let (y,g) := conjK b g
  let (q,g) := g.ite c x y
  ([(q,true)],g)
def joinM (c : Ref) : Nat → List SB → List SB → Gl → List SB × Gl
 | 0,_,_,g=>([],g)
 | f + 1,m,n,g=>match m with
  | []=>(n.map (SB.under (c,false)),g)
  | a :: m1=>match n with
   | []=>((a :: m1).map (SB.under (c,true)),g)
   | b :: n1=>match Nat.beq a.id b.id with
    | true =>
     if a.obj = b.obj ∧ a.cells.length = b.cells.length then
      let (q,g) := mixC c a.cs b.cs g
      let (ls,g) := joinLs c a.cells b.cells g
      let (xs,g) := joinM c f m1 n1 g
      (⟨b.id,q,ls,b.obj⟩ :: xs,g)
     else joinM c f m1 n1 g
    | false=>match Nat.blt b.id a.id with
     | true =>
      let (xs,g) := joinM c f m1 (b :: n1) g
      (a.under (c,true) :: xs,g)
     | false =>
      let (xs,g) := joinM c f (a :: m1) n1 g
      (b.under (c,false) :: xs,g)
def leafIds : Leaf → List Nat
 | .ptr id _ | .pdx id _ _ _ _ | .slc id _ _ _ | .slu id _ _ _ | .sla id _ _ | .opq id | .opl id _=>[id]
 | .mix _ a b=>leafIds a ++ leafIds b
 | _=>[]
def mixIds : List Leaf → List Nat → List Nat
 | [],a=>a
 | l :: ls,a=>match l with
  | .mix _ _ _=>leafIds l ++ mixIds ls a
  | _=>mixIds ls a
def svMix : SV → List Nat → List Nat
 | .a (.one l),a=>mixIds [l] a
 | .a (.agg ls),a=>mixIds ls a
 | .tup xs,a=>xs.foldr (fun x a=>match x with | .one l=>mixIds [l] a | .agg ls=>mixIds ls a) a
 | .whn _ (.one l),a=>leafIds l ++ a
 | .whn _ (.agg ls),a=>ls.flatMap leafIds ++ a
def gcM (need : List Nat) : List SB → List SB
 | []=>[]
 | b :: bs=>match b.cs with
  | []=>b :: gcM need bs
  | _ :: _=>match need.any (fun i=>Nat.beq i b.id) with
   | true=>b :: gcM (b.cells.flatMap leafIds ++ need) bs
   | false=>gcM need bs
def gcMem (ts : List SV) (m : Mem) : Mem :=
 if m.bs.all (fun b=>b.cs.isEmpty) then m else
 ⟨gcM (ts.foldr svMix (m.bs.foldr (fun b a=>match b.cs with | []=>mixIds b.cells a | _ :: _=>a) [])) m.bs,m.nb⟩
theorem gcM_sub : ∀ {bs : List SB} {need : List Nat},(gcM need bs).Sublist bs
 | [],_=>List.Sublist.refl _
 | b :: bs,need=>by
  simp only [gcM]
  split
  ·exact (gcM_sub).cons_cons _
  ·split
   ·exact (gcM_sub).cons_cons _
   ·exact (gcM_sub).cons _
theorem gcMem_sub {ts : List SV} {m : Mem} : (gcMem ts m).bs.Sublist m.bs ∧ (gcMem ts m).nb = m.nb := by
 unfold gcMem
 split
 ·exact ⟨List.Sublist.refl _,rfl⟩
 ·exact ⟨gcM_sub,rfl⟩
def joinMem (c : Ref) (m n : Mem) (g : Gl) : Mem × Gl :=
 let (bs,g) := joinM c (m.bs.length + n.bs.length + 1) m.bs n.bs g
 (⟨bs,max m.nb n.nb⟩,g)
def joinLo (c : Ref) (a b : Lo) (g : Gl) : Lo × Gl :=
 let (ts,g) := joinVs c a.tmps b.tmps g
 let (ms,g) := joinMem c a.mem b.mem g
 (⟨ts,gcMem ts ms,.c 1⟩,g)
structure Objs where
 rel : Nat → List Value → Loc → World → Prop
 keep : ∀ {k vs L w w'},rel k vs L w → w.heap.size ≤ w'.heap.size → (∀ x,L.own x → w'.heap[x]? = w.heap[x]?) → rel k vs L w'
def SlOk (z : Nat) (L : Loc) (w : World) : Prop := ∃ a len cap,L.val = .slice a len cap ∧ len ≤ cap ∧
 (a = none ∧ cap = 0 ∨ ∃ b off,a = some ⟨b,off,none⟩ ∧ (cap = 0 ∨ L.own b ∧ ∃ t cs,w.heap[b]? = some (.cells cs t (0,0)) ∧ off + cap * z ≤ cs.size ∧ ∀ v ∈ cs.toList,(∀ xs,v ≠ .agg xs) ∧ ∀ vs,v ≠ .tuple vs))
def Objs.re (O : Objs) (k : Nat) (vs : List Value) (L : Loc) (w : World) : Prop := if 1000 ≤ k then SlOk (k - 1000) L w else O.rel k vs L w
theorem Objs.re_keep (O : Objs) {k : Nat} {vs : List Value} {L : Loc} {w w' : World} (h : O.re k vs L w) (hs : w.heap.size ≤ w'.heap.size) (hk : ∀ x,L.own x → w'.heap[x]? = w.heap[x]?) : O.re k vs L w' := by
 unfold Objs.re at h ⊢
 split
 ·rename_i hc
  rw [if_pos hc] at h
  obtain ⟨a,len,cap,h1,h2,h3⟩ := h
  refine ⟨a,len,cap,h1,h2,?_⟩
  rcases h3 with h3 | ⟨b,off,e,h3⟩
  ·exact .inl h3
  ·refine .inr ⟨b,off,e,?_⟩
   rcases h3 with h3 | ⟨ho,t,cs,hh,h4⟩
   ·exact .inl h3
   ·exact .inr ⟨ho,t,cs,by rw [hk b ho]; exact hh,h4⟩
 ·rename_i hc
  rw [if_neg hc] at h
  exact O.keep h hs hk
def tyV (t : TypeId) : Value := .int .i64 (t : Nat)
def Blk (O : Objs) (ρ : Map) (E : Nat → Int) (b : SB) (w : World) : Prop :=
 ∃ L vs,ρ b.id = some L ∧ sats ρ E b.cells vs ∧
  match b.obj with
  | none=>(∀ x,L.own x ↔ x = L.n) ∧ vs.length = L.tot ∧ ∃ t,w.heap[L.n]? = some (.cells vs.toArray t (0,0)) ∧ L.val = tyV t
  | some k=>O.re k vs L w
structure M (O : Objs) (ρ : Map) (E : Nat → Int) (m : List SB) (w : World) : Prop where
 blk : ∀ b ∈ m,allC E b.cs = true → Blk O ρ E b w
 disj : ∀ b ∈ m,∀ b' ∈ m,allC E b.cs = true → allC E b'.cs = true → b.id ≠ b'.id → ∀ L L',ρ b.id = some L → ρ b'.id = some L' → ∀ x,L.own x → ¬ L'.own x
 low : ∀ b ∈ m,allC E b.cs = true → ∀ L,ρ b.id = some L → ∀ x,L.own x → x < w.heap.size
structure R (O : Objs) (ρ : Map) (E : Nat → Int) (s : Lo) (a : Act) (w : World) : Prop where
 size : s.tmps.length ≤ a.tmps.size
 tmp : ∀ i (x : SV),s.tmps[i]? = some x → x.sat ρ E (a.tmps.getD i undef)
 defers : a.defers = []
 mem : M O ρ E s.mem.bs w
 pc : truth (s.pc.val E) = true
end Sy
end Go.Proofs.YtbegodiligmphaaGreatDoor
namespace Go.Proofs.YtbegodiligmphaaGreatDoor.Sy
open Go
abbrev iE (n : Nat) : Leaf := .int .i64 (.e n)
abbrev iC (n : Int) : Leaf := .int .i64 (.c n)
abbrev bE (n : Nat) : Leaf := .bool (.e n)
abbrev uE (n : Nat) : Leaf := .int .u8 (.e n)
abbrev mI : Int := -9223372036854775808
abbrev mA : Int := 9223372036854775807
abbrev bC (n : Int) : Leaf := .bool (.c n)
def sq0 : List (Nat × Leaf) := [(0,.ptr 12 0),(2,iC 10),(5,iC 2),(7,iC 2048),(8,iC 400),(9,iC (-30000)),(10,iC 30000),(11,iC 2048),(12,iC 400),(13,iC (-30000)),(14,iC 30000),(15,iC 2048),(16,iC 2048),(17,iC 20000),(19,iC 614),(20,iC 12000),(21,.sla 11 0 2),(22,.sla 10 0 2),(23,.sla 9 0 2),(24,.sla 8 0 2),(25,.sla 7 0 2),(26,.sla 6 0 2),(27,.sla 5 0 2),(28,.sla 4 0 2),(30,iC 4),(33,iC (-6000)),(34,iC 6000),(35,iC 500),(36,iC 2048),(37,iC 10),(38,iC 20000),(39,iC 1000),(40,iC 2000),(41,iC 10923),(42,iC 6000),(43,iC 0),(44,iC 1),(45,iC 2),(47,iC 4194304),(48,iC 4),(49,iC 2),(50,iC 262144),(51,iC 1000),(52,iC 100),(53,iC 5000),(54,iC 1000),(55,iC 9000),(56,iC 20000),(57,iC 5),(58,iC 100),(59,iC 200),(60,iC 50),(61,iC 1),(62,iC 10),(63,iC 100000),(64,iC 150000),(65,iC 90000),(66,iC 100),(67,iC 64),(68,iC 2),(69,iC 8),(70,.sla 3 0 11),(71,iC 2000),(72,iC 20000)]
def sq1 : List (Nat × Leaf) := [(4,iC 2),(6,iC 2048),(7,iC 400),(8,iC (-30000)),(9,iC 30000),(10,iC 2048),(11,iC 400),(12,iC (-30000)),(13,iC 30000),(14,iC 2048),(15,iC 2048),(16,iC 20000),(17,iC 6000),(18,iC 614),(19,iC 12000),(20,.sla 11 0 2),(21,.sla 10 0 2),(22,.sla 9 0 2),(23,.sla 8 0 2),(24,.sla 7 0 2),(25,.sla 6 0 2),(26,.sla 5 0 2),(27,.sla 4 0 2),(28,iC 40),(29,iC 4),(30,iC 2000),(31,iC 100),(32,iC (-6000)),(33,iC 6000),(34,iC 500),(35,iC 2048),(36,iC 10),(37,iC 20000),(38,iC 1000),(39,iC 2000),(40,iC 10923),(41,iC 6000),(42,iC 0),(43,iC 1),(44,iC 2),(46,iC 4194304),(47,iC 4),(48,iC 2),(49,iC 262144),(50,iC 1000),(51,iC 100),(52,iC 5000),(53,iC 1000),(54,iC 9000),(55,iC 20000),(56,iC 5),(57,iC 100),(58,iC 200),(59,iC 50),(60,iC 1),(61,iC 10),(62,iC 100000),(63,iC 150000),(64,iC 90000),(65,iC 100),(66,iC 64),(67,iC 2),(68,iC 8),(69,.sla 3 0 11),(70,iC 2000),(71,iC 20000)]
def sq2 : List (Leaf) := [iC 4194304,iC 4,iC 2,iC 262144,iC 1000,iC 100,iC 5000,iC 1000,iC 9000,iC 20000,iC 5,iC 100,iC 200,iC 50,iC 1,iC 10,iC 100000,iC 150000,iC 90000,iC 100,iC 64,iC 2,iC 8]
def sq3 : List (Leaf) := [iC 2048,iC 400,iC (-30000),iC 30000,iC 2048,iC 400,iC (-30000),iC 30000,iC 2048,iC 2048,iC 20000,iC 6000,iC 614,iC 12000,.sla 17 0 2,.sla 16 0 2,.sla 15 0 2,.sla 14 0 2,.sla 13 0 2,.sla 12 0 2,.sla 11 0 2,.sla 10 0 2,iC 40,iC 4,iC 2000,iC 100,iC (-6000),iC 6000,iC 500,iC 2048,iC 10,iC 20000,iC 1000,iC 2000,iC 10923,iC 6000,iC 0,iC 1,iC 2]
def sq4 : List (Nat × Leaf) := [(30,iC 4),(33,iC (-6000)),(34,iC 6000),(35,iC 500),(36,iC 2048),(37,iC 10),(38,iC 20000),(39,iC 1000),(40,iC 2000),(41,iC 10923),(42,iC 6000),(43,iC 0),(44,iC 1),(45,iC 2),(47,iC 4194304),(48,iC 4),(49,iC 2),(50,iC 262144),(51,iC 1000),(52,iC 100),(53,iC 5000),(54,iC 1000),(55,iC 9000),(56,iC 20000),(57,iC 5),(58,iC 100),(59,iC 200),(60,iC 50),(61,iC 1),(62,iC 10),(63,iC 100000),(64,iC 150000),(65,iC 90000),(66,iC 100),(67,iC 64),(68,iC 2),(69,iC 8)]
def sq5 : List (Nat × Leaf) := [(28,iC 40),(29,iC 4),(30,iC 2000),(31,iC 100),(32,iC (-6000)),(33,iC 6000),(34,iC 500),(35,iC 2048),(36,iC 10),(37,iC 20000),(38,iC 1000),(39,iC 2000),(40,iC 10923),(41,iC 6000),(42,iC 0),(43,iC 1),(44,iC 2),(46,iC 4194304),(47,iC 4),(48,iC 2),(49,iC 262144),(50,iC 1000),(51,iC 100),(52,iC 5000),(53,iC 1000),(54,iC 9000),(55,iC 20000),(56,iC 5),(57,iC 100),(58,iC 200),(59,iC 50),(60,iC 1),(61,iC 10),(62,iC 100000),(63,iC 150000),(64,iC 90000),(65,iC 100),(66,iC 64),(67,iC 2),(68,iC 8)]
def sq6 : List (Nat × Leaf) := [(1,iC 10),(3,iC 16384),(4,iC 2),(5,iC 0),(6,iC 2048),(7,iC 400),(8,iC (-30000)),(9,iC 30000),(10,iC 2048),(11,iC 400),(12,iC (-30000)),(13,iC 30000),(14,iC 2048),(15,iC 2048),(16,iC 20000),(17,iC 6000),(18,iC 614),(19,iC 12000),(20,.sla 11 0 2),(21,.sla 10 0 2),(22,.sla 9 0 2),(23,.sla 8 0 2),(24,.sla 7 0 2),(25,.sla 6 0 2),(26,.sla 5 0 2),(27,.sla 4 0 2),(28,iC 40),(29,iC 4),(30,iC 2000),(31,iC 100),(32,iC (-6000)),(33,iC 6000),(34,iC 500),(35,iC 2048),(36,iC 10),(37,iC 20000),(38,iC 1000),(39,iC 2000),(40,iC 10923),(41,iC 6000),(42,iC 0),(43,iC 1),(44,iC 2),(45,iC 1),(46,iC 4194304),(47,iC 4),(48,iC 2),(49,iC 262144),(50,iC 1000),(51,iC 100),(52,iC 5000),(53,iC 1000),(54,iC 9000),(55,iC 20000),(56,iC 5),(57,iC 100),(58,iC 200),(59,iC 50),(60,iC 1),(61,iC 10),(62,iC 100000),(63,iC 150000),(64,iC 90000),(65,iC 100),(66,iC 64),(67,iC 2),(68,iC 8),(69,.sla 3 0 11),(70,iC 2000),(71,iC 20000),(75,iC 0),(76,iC 0),(77,iC 0),(78,iC 0),(79,bC 0)]
def sq7 : List (Leaf) := [.ptr 19 0,.opq 1000000,iC 10,.opq 1000001,.opq 1000002,iC 2,.opq 1000003,iC 2048,iC 400,iC (-30000),iC 30000,iC 2048,iC 400,iC (-30000),iC 30000,iC 2048,iC 2048,iC 20000,.opq 1000004,iC 614,iC 12000,.sla 17 0 2,.sla 16 0 2,.sla 15 0 2,.sla 14 0 2,.sla 13 0 2,.sla 12 0 2,.sla 11 0 2,.sla 10 0 2,.opq 1000005,iC 4,.opq 1000006,.opq 1000007,iC (-6000),iC 6000,iC 500,iC 2048,iC 10,iC 20000,iC 1000,iC 2000,iC 10923,iC 6000,iC 0,iC 1,iC 2,.opq 1000008]
def sq8 : List (Leaf) := [.opq 1000042,.opq 1000043,.opq 1000044,.opq 1000045,.opq 1000046,.opq 1000047,.opq 1000048,.opq 1000049,.opq 1000050,.opq 1000051,.opq 1000052,.opq 1000053,.opq 1000054,.opq 1000055,.opq 1000056,.opq 1000057,.opq 1000058,.opq 1000059,.opq 1000060,.opq 1000061,.opq 1000062,.opq 1000063,.opq 1000064,.opq 1000065,.opq 1000066,.opq 1000067]
def sq9 : List (Nat × Leaf) := [(0,iC 2),(2,iC 4),(4,iC 1),(6,iC 4),(8,iC 4),(10,iC 3),(12,iC 1),(14,iC 2),(16,iC 4),(18,iC 4),(20,iC 1)]
def sq10 : List (Leaf) := [.slu 154 0 11 2,iC 2000,iC 20000,iE 4,.ptr 90 0,iC 0,iC 0,iC 0,iC 0,iC 0,.bool (.c (0)),.bool (.c (0)),.bool (.c (0)),iC 0,iC 0,iC 0,iC 0,iC 0,iC 0,.bool (.c (0)),iC 0,iC 0,iC 0,iC 0,iC 0,iC 0,iC 0,.bool (.c (0)),.bool (.c (0)),.bool (.c (0)),iC 0,iC 0,.bool (.c (0)),iC 0,iC 0,iC 0,iC 0,.bool (.c (0)),.bool (.c (0)),.bool (.c (0)),.bool (.c (0)),iC 0,iC 0,iC 3,iC 3,.bool (.c (0)),.bool (.c (0)),.bool (.c (0)),.slc 194 0 11 11,.slc 195 0 11 11,iC 0,iC 0,.nilS,iC 0,iC 4096,iC 0,iC 4096,iC 0,iC 4096,iC 0,iC 0,iC 0,iC 0,iC 0,iC 0,iC 0,iC 0,.bool (.c (0)),iC 1638400000,iC 0,iC 0,iC 0,iC 0,iC 4,iC 2,.slc 202 0 4 4,.slc 203 0 2 2,iC 0,iC 0,iC 0,iC 0,iC 0,iC 0,iC 0,iC 0,iC 0,iC 0,iC 0,iC 0,iC 0,iC 0,iC 0]
def sq11 : List (Nat × Leaf) := [(2,iC 10),(5,iC 2),(7,iC 2048),(8,iC 400),(9,iC (-30000)),(10,iC 30000),(11,iC 2048),(12,iC 400),(13,iC (-30000)),(14,iC 30000),(15,iC 2048),(16,iC 2048),(17,iC 20000)]
def sq12 : List (Leaf) := [bC 0,bC 0,bC 0,bC 0,bC 0,bC 0,bC 0,bC 0,bC 0,bC 0,bC 0]
def sq13 : List (Nat × Leaf) := [(1,iC 10),(4,iC 2),(6,iC 2048),(7,iC 400),(8,iC (-30000)),(9,iC 30000),(10,iC 2048),(11,iC 400),(12,iC (-30000)),(13,iC 30000),(14,iC 2048),(15,iC 2048),(16,iC 20000),(17,iC 6000),(18,iC 614),(19,iC 12000)]
def sq14 : List (Leaf) := [.int .u8 (.c (0)),.int .u8 (.c (0)),.int .u8 (.c (0)),.int .u8 (.c (0)),.int .u8 (.c (0)),.int .u8 (.c (0)),.int .u8 (.c (0)),.int .u8 (.c (0)),.int .u8 (.c (0)),.int .u8 (.c (0))]
def sq15 : List (Leaf) := [iC 40,iC 4,iC 2000,iC 100,iC (-6000),iC 6000,iC 500,iC 2048,iC 10,iC 20000,iC 1000,iC 2000,iC 10923,iC 6000,iC 0,iC 1,iC 2]
def sq16 : List (Leaf) := [.opq 1000009,.opq 1000010,.opq 1000011,.opq 1000012,.opq 1000013,.opq 1000014,.opq 1000015,.opq 1000016]
def sq17 : List (Leaf) := [iC 2048,iC 400,iC (-30000),iC 30000,iC 2048,iC 400,iC (-30000),iC 30000,iC 2048,iC 2048,iC 20000,iC 6000,iC 614,iC 12000]
def sq18 : List (Leaf) := [iC 0,iC 4096,iC 40,iC 0,iC 1048576,iC 2000,iC 0,iC 1048576,iC 100,iC 0,iC 6000,iC 6000]
def sq19 : List (Leaf) := [iC 2,bE 5,iC 4,bE 6,iC 1,bE 7,iC 4,bE 8,iC 4,bE 9,iC 3,bE 10,iC 1,bE 11,iC 2,bE 12,iC 4,bE 13,iC 4,bE 14,iC 1,bE 15]
def sq20 : List (Leaf) := [.bool (.c (0)),.bool (.c (0)),.bool (.c (0)),.bool (.c (0)),.bool (.c (0)),.bool (.c (0)),.bool (.c (0)),.bool (.c (0)),.bool (.c (0)),.bool (.c (0)),.bool (.c (0))]
def sq21 : List (Leaf) := [iC 2,bC 0,iC 4,bC 0,iC 1,bC 0,iC 4,bC 0,iC 4,bC 0,iC 3,bC 0,iC 1,bC 0,iC 2,bC 0,iC 4,bC 0,iC 4,bC 0,iC 1,bC 0]
def sq22 : List (Leaf) := [.opq 1000068,.opq 1000069,.opq 1000070,.opq 1000071,.opq 1000072,.opq 1000073,.opq 1000074,.opq 1000075,.opq 1000076,.opq 1000077,.opq 1000078,.opq 1000079,.opq 1000080,.opq 1000081,.opq 1000082,.opq 1000083,.opq 1000084]
def sq23 : List (Nat × Int × Int) := [(0,100,160),(1,1,10),(2,0,65535),(3,1,20),(4,2,21),(5,0,1),(6,0,1),(7,0,1),(8,0,1),(9,0,1),(10,0,1),(11,0,1),(12,0,1),(13,0,1),(14,0,1),(15,0,1)]
def sq24 : List (Leaf) := [.opq 1000017,.opq 1000018,.opq 1000019,.opq 1000020,.opq 1000021,.opq 1000022,.opq 1000023,.opq 1000024,.opq 1000025,.opq 1000026,.opq 1000027,.opq 1000028,.opq 1000029,.opq 1000030,.opq 1000031,.opq 1000032]
def sq25 : List (Leaf) := [.int .u8 (.c (7)),.int .u8 (.c (15)),.int .u8 (.c (0)),.int .u8 (.c (0)),.int .u8 (.c (0)),.int .u8 (.c (0)),.int .u8 (.c (0)),.int .u8 (.c (0))]
def sq26 : List (Leaf) := [.int .u8 (.c 255),.int .u8 (.c 255),.int .u8 (.c 255),.int .u8 (.c 255),.int .u8 (.c 255),.int .u8 (.c 255),.int .u8 (.c 255),.int .u8 (.c 255)]
def sq27 : List (Nat × Leaf) := [(69,.sla 4 0 11),(70,iC 2000),(71,iC 20000),(72,iC 2),(93,iC 0),(94,iC 0),(95,iC 0),(96,bC 0),(97,bC 0),(98,bC 0),(99,iC 0),(102,iC 0),(103,iC 0),(104,iC 0),(105,iC 0),(106,bC 0),(107,bC 0),(108,bC 0),(109,bC 0)]
def sq28 : List (Nat × Int × Int) := [(0,mI,mA),(1,mI,mA),(2,mI,mA),(3,mI,mA),(4,mI,mA),(5,mI,mA),(6,mI,mA),(7,mI,mA),(8,mI,mA)]
def sq29 : List (Nat × Leaf) := [(69,.sla 6 0 11),(70,iC 2000),(71,iC 20000),(72,iC 2),(73,.ptr 5 0),(96,bC 0),(97,bC 0),(98,bC 0),(106,bC 0),(107,bC 0),(108,bC 0),(109,bC 0),(116,bC 0),(117,.sla 4 0 11),(118,.sla 3 0 11),(119,iC 0)]
def sq30 : List (Leaf) := [.opq 1000000,.opq 1000001,.opq 1000002,.sla 18 0 4,.opq 1000003,.sla 16 0 4,.opq 1000004,.opq 1000005,.opq 1000006,.bool (.c 0)]
def sq31 : List (Nat × Int × Int) := [(143,-1048576,1048576),(145,-1048576,1048576),(147,-1048576,1048576),(149,0,1048576),(151,-100000,1000000),(141,mI,mA),(236,mI,mA),(237,mI,mA),(238,mI,mA),(239,mI,mA),(243,0,5),(244,-1,1),(245,0,1048576),(246,0,1048576),(247,0,1099511627777),(248,0,1099511627777),(250,mI,mA),(251,mI,mA),(252,mI,mA),(253,mI,mA),(254,mI,mA),(255,mI,mA),(256,mI,mA),(260,mI,mA),(273,mI,mA)]
def sq32 : List (Nat × Leaf) := [(74,iE 141),(75,iE 236),(76,iE 237),(77,iE 238),(78,iE 239),(79,bE 240),(80,bE 241),(81,bE 242),(82,iE 243),(83,iE 244),(84,iE 245),(85,iE 246),(86,iE 247),(87,iE 248),(88,bE 249),(89,iE 250),(90,iE 251),(91,iE 252),(92,iE 253),(93,iE 254),(94,iE 255),(95,iE 256),(96,bE 257),(97,bE 258),(98,bE 259),(99,iE 260),(100,iE 273),(101,bE 274)]
def sq33 : List (Nat × Leaf) := [(85,iC 0),(86,iC 0),(87,iC 0),(88,bC 1),(89,iC 0),(90,iC 0),(91,iC 0),(92,iC 0),(93,iC 0),(94,iC 0),(95,iC 0),(96,bC 0),(97,bC 0),(98,bC 0),(99,iC 0),(100,iC 357892096),(128,iC 1),(142,iC 4),(143,iC 2),(159,iC 0),(160,iC 0)]
def sq34 : List (Leaf) := [.opq 1000036,.opq 1000037,.opq 1000038,.opq 1000039,.opq 1000040,.opq 1000041,.opq 1000042,.opq 1000043,.opq 1000044,.opq 1000045,.opq 1000046,.opq 1000047,.opq 1000048,.opq 1000049,.opq 1000050,.opq 1000051,.opq 1000052,.opq 1000053]
def sq35 : List (Nat × Leaf) := [(19,iC 614),(20,iC 12000),(21,.sla 14 0 2),(22,.sla 13 0 2),(23,.sla 12 0 2),(24,.sla 11 0 2),(25,.sla 10 0 2),(26,.sla 9 0 2),(27,.sla 8 0 2),(28,.sla 7 0 2)]
def sq36 : List (Nat × Leaf) := [(19,iC 614),(20,iC 12000),(21,.sla 12 0 2),(22,.sla 11 0 2),(23,.sla 10 0 2),(24,.sla 9 0 2),(25,.sla 8 0 2),(26,.sla 7 0 2),(27,.sla 6 0 2),(28,.sla 5 0 2)]
def sq37 : List (Leaf) := [iC 1638400000,iC 0,iC 0,iC 0,iC 0,iC 4,iC 2,.sla 8 0 4,.sla 7 0 2,iC 0,iC 0,iC 0,iC 0,iC 0,iC 0,iC 0,iC 0,iC 0,iC 0,iC 0,iC 0,iC 0,iC 0,iC 0]
def sq38 : List (Leaf) := [.opq 1000085,.opq 1000086,.opq 1000087,.opq 1000088,.opq 1000089,.opq 1000090,.opq 1000091,.opq 1000092,.opq 1000093,.opq 1000094,.opq 1000095,.opq 1000096,.opq 1000097,.opq 1000098,iE 1,.opq 1000099,.opq 1000100,.opq 1000101,.opq 1000102,.opq 1000103,.opq 1000104,.opq 1000105,.opq 1000106,.opq 1000107,iC 4,iC 2,.opq 1000108,.opq 1000109,.opq 1000110,.opq 1000111,.opq 1000112,.opq 1000113,.opq 1000114,.opq 1000115,.opq 1000116,.opq 1000117,.opq 1000118,.opq 1000119,.opq 1000120,.opq 1000121,.opq 1000122,.opq 1000123,.opq 1000124]
def sq39 : List (Leaf) := [.opq 15,iC 0,iC 2,.sla 18 0 4,.opq 1000000,.opq 1000001,.opq 1000002,iE 0]
def sq40 : List (Nat × Leaf) := [(20,.sla 14 0 2),(21,.sla 13 0 2),(22,.sla 12 0 2),(23,.sla 11 0 2),(24,.sla 10 0 2),(25,.sla 9 0 2),(26,.sla 8 0 2),(27,.sla 7 0 2)]
def sq41 : List (Nat × Leaf) := [(20,.sla 12 0 2),(21,.sla 11 0 2),(22,.sla 10 0 2),(23,.sla 9 0 2),(24,.sla 8 0 2),(25,.sla 7 0 2),(26,.sla 6 0 2),(27,.sla 5 0 2)]
def sq42 : List (Nat × Leaf) := [(6,iC 0),(7,iC 0),(8,iC (-1)),(9,bC 0),(10,.nilS),(11,.nilS),(12,iC 0),(13,iC 0),(14,iC 0),(15,bC 0),(16,bC 0)]
def sq43 : List (Leaf) := [.ptr 20 0,iC 0,iC 2,.slu 89 0 4 3,.slu 102 0 4 1,.slu 152 0 4 1,iC 0,iC 0,iC (-1),.bool (.c (0)),.nilS,.nilS,iC 0,iC 0,iC 0,.bool (.c (0)),.bool (.c (0))]
def sq44 : List (Leaf) := [.ptr 6 0,iC 0,iC 2,.sla 5 0 4,.sla 4 0 4,.sla 3 0 4,iC 0,iC 0,iC (-1),bC 0,.nilS,.nilS,iC 0,iC 0,iC 0,bC 0,bC 0]
def sq45 : List (Leaf) := [iC 2,.bool (.c (0)),iC 4,.bool (.c (0)),iC 1,.bool (.c (0)),iC 4,.bool (.c (0)),iC 4,.bool (.c (0)),iC 3,.bool (.c (0)),iC 1,.bool (.c (0)),iC 2,.bool (.c (0)),iC 4,.bool (.c (0)),iC 4,.bool (.c (0)),iC 1,.bool (.c (0))]
def sq46 : List (Leaf) := [.opq 1000003,.junk,.junk,.junk,.junk,.junk,.junk,.opq 1000004]
def sq47 : List (Leaf) := [iC 0,iC 0,iC 0,bC 1,iC 0,iC 0,iC 0,iC 0,iC 0,iC 0,iC 0,bC 0,bC 0,bC 0,iC 0,iC 357892096,bC 1,iC 0,iC 0,iC 0,iC 0,bC 0,bC 0,bC 0,bC 0]
def sq48 : List (Nat × Leaf) := [(74,iC 0),(75,iC 0),(76,iC 0),(79,bC 0),(80,bC 0),(81,bC 1),(82,iC 5),(89,iC 0),(90,iC 0),(93,bC 0)]
def sq49 : List (Nat × Leaf) := [(70,.sla 6 0 11),(71,iC 2000),(72,iC 20000),(87,bC 0),(93,bC 0),(95,bC 0),(96,bC 1),(97,bC 0)]
def sq50 : List (Nat × Int × Int) := [(164,0,6000),(165,0,4096),(166,0,1048576),(167,0,1048576),(231,mI,mA),(232,mI,mA),(233,0,131070),(234,-140737488355328,140737488355327),(271,mI,mA),(272,0,1),(172,0,1)]
def sq51 : List (Leaf) := [iC 0,iC 0,iC 0,iC 48000,iC 25000,bC 0,bC 0,bC 1,iC 5,bC 0,bC 0]
def sq52 : List (Leaf) := [.sla 20 0 2,.sla 19 0 2,.sla 18 0 2,.sla 17 0 2,.sla 16 0 2,.sla 15 0 2,.sla 14 0 2,.sla 13 0 2]
def sq53 : List (Leaf) := [.int .u8 (.c (0)),.int .u8 (.c (7)),.int .u8 (.c (0)),.int .u8 (.c (0)),.int .u8 (.c (0)),.int .u8 (.c (0)),.int .u8 (.c (0)),.int .u8 (.c (0)),.int .u8 (.c (0)),.int .u8 (.c (121))]
def sq54 : List (Leaf) := [.int .u8 (.c (1)),.int .u8 (.c (7)),.int .u8 (.c (6)),.int .u8 (.c (0)),.int .u8 (.c (0)),.int .u8 (.c (0)),.int .u8 (.c (0)),.int .u8 (.c (0)),.int .u8 (.c (0)),.int .u8 (.c (204))]
def sq55 : List (Leaf) := [.int .u8 (.c (2)),.int .u8 (.c (7)),.int .u8 (.c (7)),.int .u8 (.c (0)),.int .u8 (.c (0)),.int .u8 (.c (0)),.int .u8 (.c (0)),.int .u8 (.c (0)),.int .u8 (.c (0)),.int .u8 (.c (152))]
def sq56 : List (Nat × Leaf) := [(18,iC 6000),(19,iC 614),(20,iC 12000),(21,.sla 11 0 2),(22,.sla 10 0 2),(23,.sla 9 0 2),(24,.sla 8 0 2),(25,.sla 7 0 2),(26,.sla 6 0 2),(27,.sla 5 0 2),(28,.sla 4 0 2)]
def sq57 : List (Nat × Leaf) := [(70,.sla 4 0 11),(71,iC 2000),(72,iC 20000),(83,bC 0),(84,bC 0),(85,bC 1),(86,bC 1),(88,.sla 3 0 10),(95,bC 0)]
def sq58 : List (Leaf) := [.slu 158 0 2 1,.slu 160 0 2 1,.slu 164 0 2 1,.slu 166 0 2 1,.slu 170 0 2 1,.slu 172 0 2 1,.slu 176 0 2 1,.slu 178 0 2 1]
def sq59 : List (Leaf) := [.opq 1000033,.opq 1000034,.opq 1000035,.opq 1000036,.opq 1000037,.opq 1000038,.opq 1000039,.opq 1000040,.opq 1000041]
def sq60 : List (Nat × Leaf) := [(139,iC 0),(140,iC 0),(142,iC 4),(143,iC 2),(150,iC 0),(153,iC 0),(154,iC 0),(155,iC 0),(156,iC 0),(157,iC 0),(158,iC 0),(159,iC 0),(160,iC 0)]
def sq61 : List (Leaf) := [.ptr 19 0,.opq 1000000,iC 10,.opq 1000001,.opq 1000002,iC 2,.opq 1000003,iC 2048,iC 400,iC (-30000),iC 30000,iC 2048,iC 400,iC (-30000),iC 30000,iC 2048,iC 2048,iC 20000,iE 0,iC 614,iC 12000,.sla 17 0 2,.sla 16 0 2,.sla 15 0 2,.sla 14 0 2,.sla 13 0 2,.sla 12 0 2,.sla 11 0 2,.sla 10 0 2]
def sq62 : List (Leaf) := [iC 0,iC 0,iC 0,iC 48000,iC 25000,.bool (.c (0)),.bool (.c (0)),.bool (.c (1)),iC 5,.bool (.c (0)),.bool (.c (0)),bE 41,bE 43,.bool (.c (0))]
def sq63 : List (Leaf) := [.sla 3 0 2,.sla 4 0 2,.sla 5 0 2,.sla 6 0 2,.sla 7 0 2,.sla 8 0 2,.sla 9 0 2,.sla 10 0 2]
def sq64 : List (Leaf) := [.opq 1000000,.opq 1000001,.opq 1000002,iE 0,iC 2,.opq 1000003,.opq 1000004,.opq 1000005,.opq 1000006,.opq 1000007,.opq 1000008]
def sq65 : List (Nat × Int × Int) := [(14,mI,mA),(15,mI,mA),(16,mI,mA),(17,mI,mA),(18,mI,mA),(19,mI,mA),(20,mI,mA),(21,mI,mA),(22,mI,mA)]
def sq66 : List (Leaf) := [iC 2,.opq 1000103,iC 4,.opq 1000104,iC 1,.opq 1000105,iC 4,.opq 1000106,iC 4,.opq 1000107,iC 3,.opq 1000108,iC 1,.opq 1000109,iC 2,.opq 1000110,iC 4,.opq 1000111,iC 4,.opq 1000112,iC 1,.opq 1000113]
def sq67 : List (Leaf) := [iC 2,.opq 1000125,iC 4,.opq 1000126,iC 1,.opq 1000127,iC 4,.opq 1000128,iC 4,.opq 1000129,iC 3,.opq 1000130,iC 1,.opq 1000131,iC 2,.opq 1000132,iC 4,.opq 1000133,iC 4,.opq 1000134,iC 1,.opq 1000135]
def sq68 : List (Leaf) := [.opq 1000086,.opq 1000087,.opq 1000088,.opq 1000089,.opq 1000090,.opq 1000091,.opq 1000092,.opq 1000093]
def sq69 : List (Leaf) := [.opq 1000062,.opq 1000063,.opq 1000064,.opq 1000065,.opq 1000066,.opq 1000067,.opq 1000068,.opq 1000069]
def sq70 : List (Leaf) := [.opq 1000071,.opq 1000072,.opq 1000073,.opq 1000074,.opq 1000075,.opq 1000076,.opq 1000077,.opq 1000078]
def sq71 : List (Leaf) := [iC (-6000),iC 6000,iC 500,iC 2048,iC 10,iC 20000,iC 1000,iC 2000,iC 10923,iC 6000,iC 0,iC 1,iC 2]
def sq72 : List (Leaf) := [.opq 1000100,.opq 1000101,.opq 1000102,.opq 1000103,.opq 1000104,.opq 1000105,iC 4,iC 2,.opq 1000106,.opq 1000107,.opq 1000108,.opq 1000109,.opq 1000110,.opq 1000111]
def sq73 : List (Leaf) := [iC 0,iC 0,iC 0,bC 1,bC 1,bC 0,.sla 10 0 11,.sla 9 0 11,iC 0]
def sq74 : List (Leaf) := [.int .u8 (.c (0)),.int .u8 (.c (0)),.int .i32 (.c (0)),.int .i16 (.c (0)),.int .i16 (.c (0)),.int .i16 (.c (0)),.int .i16 (.c (0)),.int .u16 (.c (1))]
def sq75 : List (Leaf) := [.opq 1000024,.opq 1000025,.opq 1000026,.opq 1000027,.opq 1000028,.opq 1000029,.opq 1000030,.opq 1000031,.opq 1000032,.opq 1000033,.opq 1000034]
def sq76 : List (Leaf) := [iE 0,iE 1,iE 2,iE 3,iE 4,iE 5,iE 6,iE 7,iE 8,iE 9]
def sq77 : List (Leaf) := [iC 1000,iC 100,iC 5000,iC 1000,iC 9000,iC 20000,iC 5,iC 100,iC 200,iC 50]
def sq78 : List (Leaf) := [iC 100,bC 0,bC 0,bC 0,bC 0,bC 0,bC 0,.opq 84,bC 1,bC 1,.slc 112 0 14 14]
def sq79 : List (Leaf) := [.opq 1000112,.opq 1000113,.opq 1000114,.opq 1000115,.opq 1000116,.opq 1000117,.opq 1000118,.opq 1000119,.opq 1000120,.opq 1000121]
end Go.Proofs.YtbegodiligmphaaGreatDoor.Sy
namespace Go.Proofs.YtbegodiligmphaaGreatDoor.Sy
open Go
inductive Ch where
 | id (n : Nat)
 | mix (c : Ref) (a b : Ch)
 deriving Inhabited
def Ch.ids : Ch → List Nat
 | .id n=>[n]
 | .mix _ a b=>a.ids ++ b.ids
def Ch.at_ (E : Nat → Int) : Ch → Nat
 | .id n=>n
 | .mix c a b=>if truth (c.val E) then a.at_ E else b.at_ E
def isSla (off len : Nat) : Ch → Leaf → Bool
 | .id n,.slc i o k cap=>Nat.beq i n && Nat.beq o off && Nat.beq k len && Nat.ble k cap
 | .id n,.slu i o k _=>Nat.beq i n && Nat.beq o off && Nat.beq k len
 | .id n,.sla i o k=>Nat.beq i n && Nat.beq o off && Nat.beq k len
 | .mix c a b,.mix c' x y=>c.same c' && isSla off len a x && isSla off len b y
 | _,_=>false
def isOpq : Ch → Leaf → Bool
 | .id n,.opq i=>Nat.beq i n
 | .mix c a b,.mix c' x y=>c.same c' && isOpq a x && isOpq b y
 | _,_=>false
def inCs (p : Ref × Bool) : List (Ref × Bool) → Bool
 | []=>false
 | q :: l=>(p.1.same q.1 && (p.2 == q.2)) || inCs p l
def againstT (y : Bool) : Ref → Bool
 | .c m=>truth m != y
 | .e _=>false
def againstN (q : Int → Bool) (y : Bool) : Ref → Bool
 | .c m=>q m != y
 | .e _=>false
def eqR (g : Gl) (q : Int → Bool) (y : Bool) : Nat → Ref → List (Ref × Bool)
 | 0,_=>[]
 | f + 1,r=>match r with
  | .c _=>[]
  | .e i=>match g.at_ i with
   | some (.ite c a b)=>(if againstN q y a then (c,false) :: eqR g q y f b else []) ++ (if againstN q y b then (c,true) :: eqR g q y f a else [])
   | _=>[]
def expR (g : Gl) : Nat → Ref × Bool → List (Ref × Bool)
 | 0,p=>[p]
 | f + 1,(r,y)=>(r,y) :: match r with
  | .c _=>[]
  | .e i=>match g.at_ i with
   | some (.not x)=>expR g f (x,!y)
   | some (.and a b)=>match y with
    | true=>expR g f (a,true) ++ expR g f (b,true)
    | false=>[]
   | some (.or a b)=>match y with
    | true=>[]
    | false=>expR g f (a,false) ++ expR g f (b,false)
   | some (.ite c a b)=>(if againstT y a then expR g f (c,false) ++ expR g f (b,y) else []) ++ (if againstT y b then expR g f (c,true) ++ expR g f (a,y) else [])
   | some (.bin o _ x z)=>match z with
    | .c n=>match o with
     | .eql=>(eqR g (fun m=>m == n) y 20 x).flatMap (expR g f)
     | .neq=>(eqR g (fun m=>m == n) (!y) 20 x).flatMap (expR g f)
     | .gtr=>(eqR g (fun m=>decide (m > n)) y 20 x).flatMap (expR g f)
     | _=>[]
    | .e _=>[]
   | _=>[]
def unitR (g : Gl) (P : List (Ref × Bool)) : List (Ref × Bool) → List (Ref × Bool)
 | []=>[]
 | (r,y) :: l=>(match r with
  | .c _=>[]
  | .e i=>match g.at_ i with
   | some (.and a b)=>match y with
    | true=>[]
    | false=>(if inCs (a,true) P then [(b,false)] else []) ++ (if inCs (b,true) P then [(a,false)] else [])
   | some (.or a b)=>match y with
    | true=>(if inCs (a,false) P then [(b,true)] else []) ++ (if inCs (b,false) P then [(a,true)] else [])
    | false=>[]
   | _=>[]) ++ unitR g P l
def newR (l P : List (Ref × Bool)) : List (Ref × Bool) := l.filter fun q=>!inCs q P
def moreP (g : Gl) (p : Ref × Bool) (P : List (Ref × Bool)) : List (Ref × Bool) :=
 let Q := newR (expR g 20 p) P ++ P
 newR (unitR g Q Q) Q ++ Q
def impR (g : Gl) : Nat → List (Ref × Bool) → Ref × Bool → Bool
 | 0,_,_=>false
 | f + 1,P,(r,y)=>inCs (r,y) P || match r with
  | .c n=>truth n == y
  | .e i=>match g.at_ i with
   | some (.not x)=>impR g f P (x,!y)
   | some (.and a b)=>match y with
    | true=>impR g f P (a,true) && impR g f P (b,true)
    | false=>impR g f P (a,false) || impR g f P (b,false)
   | some (.or a b)=>match y with
    | true=>impR g f P (a,true) || impR g f P (b,true)
    | false=>impR g f P (a,false) && impR g f P (b,false)
   | some (.ite c a b)=>match impR g f P (c,true) with
    | true=>impR g f P (a,y)
    | false=>match impR g f P (c,false) with
     | true=>impR g f P (b,y)
     | false=>impR g f (moreP g (c,true) P) (a,y) && impR g f (moreP g (c,false) P) (b,y)
   | _=>false
def rowI (m : List SB) : List (Ref × Bool) → Ch → Gl → Option (Option Nat × List Leaf × Gl)
 | P,.id n,g=>match m.find? (·.id == n) with
  | some b=>if b.cs.all (impR g 40 P) then some (b.obj,b.cells,g) else none
  | none=>none
 | P,.mix c a b,g=>match rowI m (moreP g (c,true) P) a g with
  | some (o,la,g)=>match rowI m (moreP g (c,false) P) b g with
   | some (o',lb,g)=>if o = o' ∧ la.length = lb.length then
     let (ls,g) := joinLs c la lb g
     some (o,ls,g)
    else none
   | none=>none
  | none=>none
inductive Mk where
 | sl (off len : Nat)
 | ob
 | ol
 deriving DecidableEq
def mkOf : Leaf → Option Mk
 | .slc _ o n _ | .slu _ o n _ | .sla _ o n=>some (.sl o n)
 | .opq _=>some .ob
 | .opl _ _=>some .ol
 | .mix _ a _=>mkOf a
 | _=>none
def chOf : Leaf → Option Ch
 | .slc i _ _ _ | .slu i _ _ _ | .sla i _ _ | .opq i | .opl i _=>some (.id i)
 | .mix c a b=>match chOf a with
  | some x=>match chOf b with
   | some y=>some (.mix c x y)
   | none=>none
  | none=>none
 | _=>none
def isOpl : Ch → Leaf → Bool
 | .id n,.opl i _=>Nat.beq i n
 | .mix c a b,.mix c' x y=>c.same c' && isOpl a x && isOpl b y
 | _,_=>false
def findIte (c x y : Ref) : List Df → Nat → Option Nat
 | d :: ds,n + 1=>match d with
  | .ite c' x' y'=>match c.same c' && (x.same x' && y.same y') with
   | true=>some n
   | false=>findIte c x y ds n
  | _=>findIte c x y ds n
 | _,_=>none
def Gl.iteF (g : Gl) (c x y : Ref) : Ref × Gl :=
 match findIte c x y g.defs g.nd with
 | some i=>(.e i,g)
 | none=>g.ite c x y
def lenLf : Leaf → Gl → Option (Ref × Gl)
 | .opl _ n,g=>some (n,g)
 | .nilS,g=>some (.c 0,g)
 | .slc _ _ n _,g=>some (.c n,g)
 | .slu _ _ n _,g=>some (.c n,g)
 | .sla _ _ n,g=>some (.c n,g)
 | .mix c a b,g=>match lenLf a g with
  | some (x,g)=>match lenLf b g with
   | some (y,g)=>some (g.iteF c x y)
   | none=>none
  | none=>none
 | _,_=>none
def Mk.len (k : Mk) (l : Leaf) (g : Gl) : Option (Ref × Gl) :=
 match k with
 | .ol=>lenLf l g
 | _=>some (.c 0,g)
def Mk.is (k : Mk) (ch : Ch) (l : Leaf) : Bool :=
 match k with
 | .sl o n=>isSla o n ch l
 | .ob=>isOpq ch l
 | .ol=>isOpl ch l
def Mk.leaf (k : Mk) (i : Nat) (r : Ref) : Leaf :=
 match k with
 | .sl o n=>.sla i o n
 | .ob=>.opq i
 | .ol=>.opl i r
def mergeL (m : Mem) (l : Leaf) (g : Gl) : Option (Leaf × Mem × Gl) :=
 match mkOf l with
 | some k=>match chOf l with
  | some ch=>match k.is ch l with
   | true=>match k.len l g with
    | some (r,g)=>match rowI m.bs [] ch g with
     | some (o,row,g)=>some (k.leaf m.nb r,⟨⟨m.nb,[],row,o⟩ :: m.bs.filter (fun b=>!ch.ids.contains b.id),m.nb + 1⟩,g)
     | none=>none
    | none=>none
   | false=>none
  | none=>none
 | none=>none
def resL (g : Gl) (P : List (Ref × Bool)) : Leaf → Leaf
 | .mix c a b=>match impR g 40 P (c,true) with
  | true=>resL g P a
  | false=>match impR g 40 P (c,false) with
   | true=>resL g P b
   | false=>.mix c (resL g P a) (resL g P b)
 | l=>l
def resA (g : Gl) (P : List (Ref × Bool)) : SA → SA
 | .one l=>.one (resL g P l)
 | .agg ls=>.agg (ls.map (resL g P))
def resC (g : Gl) (P : List (Ref × Bool)) (cs : List (Ref × Bool)) : List (Ref × Bool) := cs.filter fun p=>!impR g 40 P p
def resV (g : Gl) (P : List (Ref × Bool)) : SV → SV
 | .a x=>.a (resA g P x)
 | .tup xs=>.tup (xs.map (resA g P))
 | .whn cs x=>match resC g P cs with
  | []=>.a (resA g P x)
  | c :: cs=>.whn (c :: cs) (resA g P x)
def resB (g : Gl) (P : List (Ref × Bool)) (b : SB) : SB := ⟨b.id,resC g P b.cs,b.cells.map (resL g P),b.obj⟩
def resS (g : Gl) (s : Lo) : Lo := ⟨s.tmps.map (resV g (moreP g (s.pc,true) [])),⟨s.mem.bs.map (resB g (moreP g (s.pc,true) [])),s.mem.nb⟩,s.pc⟩
def leafOf (v : Value) : Leaf :=
 match v with
 | .int k n=>.int k (.c n)
 | .bool b=>.bool (.c (ofB b))
 | .pointer a=>match a with | none=>.nilP | some _=>.junk
 | .slice a l c=>match a with | none=>(if l = 0 ∧ c = 0 then .nilS else .junk) | some _=>.junk
 | .nilIface=>.nilI
 | .nilFunc=>.nilF
 | .iface t u=>match u with | .int k n=>.ifc t (.int k (.c n)) | _=>.junk
 | .func fn first caps=>match fn with | .func f=>(if first.size = 0 ∧ caps.size = 0 then .fn f .junk else .junk) | _=>.junk
 | _=>.junk
def svOf (v : Value) : SV :=
 match v with
 | .agg cs=>.a (.agg (cs.toList.map leafOf))
 | v=>.a (.one (leafOf v))
structure TyI where
 under : TypeDesc
 info : TypeInfo
abbrev Tys := TypeId → Option TyI
class TyOk (P : Program) (T : Tys) : Prop where
 ok : ∀ t i,T t = some i → P.underlying t = some i.under ∧ P.info? t = some i.info
class FnOk (P : Program) (F : FuncId → Option Func) : Prop where
 ok : ∀ f fn,F f = some fn → P.funcs[f]? = some fn
def undT (T : Tys) (t : TypeId) : Option TypeDesc :=
 match T t with
 | some i=>some i.under
 | none=>none
def isAggT (T : Tys) (t : TypeId) : Option Bool :=
 match undT T t with
 | some (.struct _) | some (.array _ _)=>some true
 | some _=>some false
 | none=>none
def sizeT (T : Tys) (t : TypeId) : Option Nat := (T t).map (·.info.size)
def bytesT (T : Tys) (t : TypeId) : Option Nat := (T t).map (·.info.bytes)
def zeroT (T : Tys) (t : TypeId) : Option (List Leaf) := ((T t).bind (·.info.zero)).map fun v=>v.cells.toList.map leafOf
def fieldT (T : Tys) (t : TypeId) (f : Nat) : Option (Nat × TypeId) :=
 match undT T t with
 | some (.struct fs)=>(fs[f]?).map fun x=>(x.offset,x.type)
 | _=>none
structure Ctr where
 run : List SV → Mem → Ref → Gl → Option (SV × Mem × Gl)
structure Cx where
 P : Program
 T : Tys
 F : FuncId → Option Func
 glob : Nat → Option Nat
 ctr : FuncId → Option Ctr
abbrev Ev := Operand → Option SV
def evX (X : Cx) (tmps : List SV) : Ev
 | .tmp t=>tmps[t]?
 | .const v=>some (svOf v)
 | .global g=>(X.glob g).map fun id=>.a (.one (.ptr id 0))
 | .func f=>some (.a (.one (.fn f .junk)))
def ev1 (ev : Ev) (x : Operand) : Option Leaf :=
 match ev x with
 | some (.a (.one l))=>some l
 | _=>none
def evA (ev : Ev) (x : Operand) : Option SA :=
 match ev x with
 | some (.a z)=>some z
 | _=>none
def SA.cells : SA → List Leaf
 | .one l=>[l]
 | .agg ls=>ls
def Leaf.firm : Leaf → Bool
 | .junk | .cons _ _=>false
 | .mix _ a b=>a.firm && b.firm
 | _=>true
def SA.solid : SA → Bool
 | .one l=>l.firm
 | .agg _=>true
def partS (T : Tys) (t : TypeId) (cs : List Leaf) (off : Nat) : Option SA :=
 match isAggT T t with
 | some true=>match sizeT T t with
  | some n=>if off + n ≤ cs.length then some (.agg ((cs.drop off).take n)) else none
  | none=>none
 | some false=>(cs[off]?).map .one
 | none=>none
def place (cells : List Leaf) (off : Nat) : List Leaf → List Leaf
 | []=>cells
 | v :: vs=>place (cells.set off v) (off + 1) vs
def getB (m : Mem) (id : Nat) : Option SB :=
 match m.bs.find? (·.id == id) with
 | some b=>if b.obj = none ∧ b.cs = [] then some b else none
 | none=>none
def setB (m : Mem) (id : Nat) (cs : List Leaf) : Mem := ⟨m.bs.map fun b=>if b.id == id then { b with cells := cs } else b,m.nb⟩
def newB (m : Mem) (_t : TypeId) (cs : List Leaf) : Mem := ⟨⟨m.nb,[],cs,none⟩ :: m.bs,m.nb + 1⟩
inductive NilK where
 | i | p | s | f
 deriving DecidableEq
def nilL (kd : NilK) (g : Gl) : Leaf → Option (Ref × Gl)
 | .nilI=>if kd = .i then some (.c 1,g) else none
 | .nilP=>if kd = .p then some (.c 1,g) else none
 | .nilS=>if kd = .s then some (.c 1,g) else none
 | .nilF=>if kd = .f then some (.c 1,g) else none
 | .ifc _ _=>if kd = .i then some (.c 0,g) else none
 | .ptr _ _ | .pdx _ _ _ _ _=>if kd = .p then some (.c 0,g) else none
 | .slc _ _ _ _ | .slu _ _ _ _ | .sla _ _ _=>if kd = .s then some (.c 0,g) else none
 | .fn _ _=>if kd = .f then some (.c 0,g) else none
 | .mix c a b =>
  match nilL kd g a with
  | some (x,g)=>match nilL kd g b with
   | some (y,g)=>some (g.ite c x y)
   | none=>none
  | none=>none
 | _=>none
def eqLs (g : Gl) : List Leaf → List Leaf → Option (Ref × Gl)
 | [],[]=>some (.c 1,g)
 | .int k x :: xs1,.int k' y :: ys1=>if k = k' then
   let (r,g) := g.bin .eql k x y
   match eqLs g xs1 ys1 with
   | some (q,g)=>some (g.and r q)
   | none=>none
  else none
 | .bool x :: xs1,.bool y :: ys1 =>
   let (r,g) := g.eqb x y
   match eqLs g xs1 ys1 with
   | some (q,g)=>some (g.and r q)
   | none=>none
 | _,_=>none
def nilLit : Operand → Option NilK
 | .const .nilIface=>some .i
 | .const (.pointer none)=>some .p
 | .const .nilFunc=>some .f
 | .const (.slice none 0 0)=>some .s
 | _=>none
def nilT (T : Tys) (t : TypeId) : Option NilK :=
 match undT T t with
 | some (.interface _)=>some .i
 | some (.pointer _)=>some .p
 | some (.slice _)=>some .s
 | some (.func _ _ _)=>some .f
 | _=>none
def isI : Leaf → Bool
 | .int _ _=>true
 | _=>false
def isB : Leaf → Bool
 | .bool _=>true
 | _=>false
def scalarT (T : Tys) (e : TypeId) (ls : List Leaf) : Bool :=
 match undT T e with
 | some .bool=>ls.all isB
 | some (.int _)=>ls.all isI
 | _=>false
def eqOut (op : BinOp) (r : Ref) (g : Gl) : Option (SV × Gl) :=
 if op = .eql then some (.a (.one (.bool r)),g)
 else if op = .neq then
  let (r,g) := g.not r
  some (.a (.one (.bool r)),g)
 else none
def binInt (pc : Ref) (g : Gl) (op : BinOp) (k k' : IntKind) (a b : Ref) : Option (SV × Gl) :=
 if op = .shl ∨ op = .shr then
  match b with
  | .c n=>if 0 ≤ n then let (r,g) := g.bin op k a b; some (.a (.one (.int k r)),g) else none
  | .e _ =>
   let (z,g) := g.bin .geq k' b (.c 0)
   let g := g.must pc z
   let (r,g) := g.bin op k a b; some (.a (.one (.int k r)),g)
 else if k ≠ k' then none else
 if op = .quo ∨ op = .rem then
  let (z,g) := g.bin .neq k' b (.c 0)
  let g := g.must pc z
  let (r,g) := g.bin op k a b; some (.a (.one (.int k r)),g)
 else
  let (r,g) := g.bin op k a b
  if isCmp op then some (.a (.one (.bool r)),g) else some (.a (.one (.int k r)),g)
def evBin (X : Cx) (ev : Ev) (pc : Ref) (g : Gl) (op : BinOp) (t : TypeId) (x y : Operand) : Option (SV × Gl) :=
 match evA ev x,evA ev y with
 | some (.one a),some (.one b) =>
  match a,b with
  | .int k a,.int k' b=>binInt pc g op k k' a b
  | .bool a,.bool b =>
   match undT X.T t with
   | some .bool =>
    let (r,g) := g.eqb a b
    eqOut op r g
   | _=>none
  | a,b =>
   match nilT X.T t with
   | some kd =>
    if nilLit y = some kd then
     match nilL kd g a with
     | some (r,g)=>eqOut op r g
     | none=>none
    else if nilLit x = some kd then
     match nilL kd g b with
     | some (r,g)=>eqOut op r g
     | none=>none
    else none
   | none=>none
 | some (.agg xs1),some (.agg ys1) =>
  match undT X.T t with
  | some (.array n e) =>
   if xs1.length = n ∧ ys1.length = n ∧ sizeT X.T e = some 1 ∧ scalarT X.T e xs1 ∧ X.P.eqGuardType X.P.depth t = false then
    match eqLs g xs1 ys1 with
    | some (r,g)=>eqOut op r g
    | none=>none
   else none
  | _=>none
 | _,_=>none
def evMin (mx : Bool) (l : Leaf) : List Leaf → Gl → Option (Leaf × Gl)
 | [],g=>some (l,g)
 | x :: rest,g=>match l,x with
  | .int k a,.int k' b=>if k = k' then
    match a,b with
    | .c m,.c n=>evMin mx (.int k (.c (if mx then max m n else min m n))) rest g
    | _,_ =>
     let (r,g) := g.push (if mx then .mx a b else .mn a b)
     evMin mx (.int k r) rest g
   else none
  | _,_=>none
def capsOf : Leaf → List SV
 | .cons a b=>.a (.one a) :: capsOf b
 | _=>[]
def capsTo : List Leaf → Leaf
 | []=>.junk
 | a :: l=>.cons a (capsTo l)
def evList {α : Type} : List (Option α) → Option (List α)
 | []=>some []
 | x :: l=>match x with
  | some a=>match evList l with
   | some xs1=>some (a :: xs1)
   | none=>none
  | none=>none
def ones : List SV → Option (List Leaf)
 | []=>some []
 | .a (.one l) :: xs=>(ones xs).map (l :: ·)
 | _=>none
def lenL (T : Tys) (t : TypeId) (x : SA) : Option Nat :=
 match undT T t with
 | some (.array n _)=>some n
 | some (.pointer u)=>match undT T u with | some (.array n _)=>some n | _=>none
 | some (.slice _)=>match x with
  | .one (.slc _ _ n _)=>some n
  | .one (.slu _ _ n _)=>some n
  | .one (.sla _ _ n)=>some n
  | .one .nilS=>some 0
  | _=>none
 | _=>none
def lenO (T : Tys) (t : TypeId) (x : SA) : Option Ref :=
 match lenL T t x with
 | some n=>some (.c n)
 | none=>match undT T t with
  | some (.slice _)=>match x with
   | .one (.opl _ n)=>some n
   | _=>none
  | _=>none
def fillS (at_ : Nat → Option (Nat × Nat)) (cells : List Leaf) : List (Nat × SA) → Option (List Leaf)
 | []=>some cells
 | (i,v) :: rest =>
  match at_ i with
  | some (off,n)=>if v.cells.length = n ∧ off + n ≤ cells.length then fillS at_ (place cells off v.cells) rest else none
  | none=>none
def dropN : Nat → List Leaf → Option (List Leaf)
 | 0,l=>some l
 | n + 1,l=>match l with
  | _ :: l=>dropN n l
  | []=>none
def fillQ (at_ : Nat → Option (Nat × Nat)) : Nat → List Leaf → List (Nat × SA) → Option (List Leaf)
 | _,z,[]=>some z
 | pos,z,(i,v) :: rest =>
  match at_ i with
  | some (off,n)=>match Nat.beq off pos && Nat.beq v.cells.length n with
   | true=>match dropN n z with
    | some z'=>match fillQ at_ (pos + n) z' rest with
     | some cs=>some (v.cells ++ cs)
     | none=>none
    | none=>none
   | false=>none
  | none=>none
def fillX (at_ : Nat → Option (Nat × Nat)) (z : List Leaf) (ps : List (Nat × SA)) : Option (List Leaf) :=
 match fillQ at_ 0 z ps with
 | some cs=>some cs
 | none=>fillS at_ z ps
theorem dropN_ok : ∀ {n : Nat} {l l' : List Leaf},dropN n l = some l' → n ≤ l.length ∧ l' = l.drop n
 | 0,l,l',h=>by
  simp only [dropN] at h
  injection h with h; subst h
  exact ⟨Nat.zero_le _,rfl⟩
 | n + 1,_ :: l,l',h=>by
  simp only [dropN] at h
  obtain ⟨h1,h2⟩ := dropN_ok h
  exact ⟨by simp only [List.length_cons]; omega,by rw [h2]; rfl⟩
 | n + 1,[],_,h=>by simp [dropN] at h
theorem place_mid : ∀ (vs pre z : List Leaf),vs.length ≤ z.length → place (pre ++ z) pre.length vs = pre ++ (vs ++ z.drop vs.length)
 | [],pre,z,_=>by simp [place]
 | v :: vs,pre,[],h=>by simp at h
 | v :: vs,pre,o :: z,h=>by
  simp only [place]
  have : (pre ++ o :: z).set pre.length v = (pre ++ [v]) ++ z := by simp
  rw [this]
  have e : pre.length + 1 = (pre ++ [v]).length := by simp
  rw [e,place_mid vs (pre ++ [v]) z (by simpa using h)]
  simp
theorem fillQ_ok {at_ : Nat → Option (Nat × Nat)} : ∀ {ps : List (Nat × SA)} {pre z cs : List Leaf},fillQ at_ pre.length z ps = some cs → fillS at_ (pre ++ z) ps = some (pre ++ cs)
 | [],pre,z,cs,h=>by
  simp only [fillQ] at h
  injection h with h; subst h
  rfl
 | (i,v) :: rest,pre,z,cs,h=>by
  simp only [fillQ] at h
  simp only [fillS]
  split at h
  ·rename_i off n ha
   split at h
   ·rename_i hc
    simp only [Bool.and_eq_true] at hc
    have h1 := Nat.eq_of_beq_eq_true hc.1
    have h2 := Nat.eq_of_beq_eq_true hc.2
    split at h
    ·rename_i z' hz
     obtain ⟨hl,rfl⟩ := dropN_ok hz
     split at h
     ·rename_i cs' hq
      injection h with h; subst h
      subst h1
      simp only [h2,true_and,List.length_append]
      rw [if_pos (by omega),place_mid v.cells pre z (by omega)]
      have e : pre.length + n = (pre ++ v.cells).length := by simp [h2]
      rw [e] at hq
      have := fillQ_ok hq
      rw [h2,← List.append_assoc,this,List.append_assoc]
     ·cases h
    ·cases h
   ·cases h
  ·cases h
theorem fillX_eq {at_ : Nat → Option (Nat × Nat)} {z : List Leaf} {ps : List (Nat × SA)} : fillX at_ z ps = fillS at_ z ps := by
 unfold fillX
 split
 ·rename_i cs h
  have := fillQ_ok (pre := []) h
  simpa using this.symm
 ·rfl
def partsOf (ev : Ev) : List (Nat × Operand) → Option (List (Nat × SA))
 | []=>some []
 | (i,x) :: rest=>match evA ev x with
  | some v=>if v.solid then (match partsOf ev rest with
   | some l=>some ((i,v) :: l)
   | none=>none) else none
  | none=>none
def litN : Leaf → Option Nat
 | .int _ (.c n)=>if 0 ≤ n then some n.toNat else none
 | _=>none
def intsOf (k : IntKind) : List Leaf → Option (List Ref)
 | []=>some []
 | .int k' r :: ls=>if k' = k then (intsOf k ls).map (r :: ·) else none
 | _=>none
def boolsOf : List Leaf → Option (List Ref)
 | []=>some []
 | .bool r :: ls=>(boolsOf ls).map (r :: ·)
 | _=>none
def selCol (col : List Leaf) (i : Ref) (g : Gl) : Option (Leaf × Gl) :=
 match col with
 | []=>none
 | l :: rest=>if rest.all (· = l) then some (l,g) else
  match l with
  | .int k _=>match intsOf k col with
   | some rs=>let (r,g) := g.push (.sel rs i); some (.int k r,g)
   | none=>none
  | .bool _=>match boolsOf col with
   | some rs=>let (r,g) := g.push (.sel rs i); some (.bool r,g)
   | none=>none
  | _=>none
def selCols : Nat → List (List Leaf) → Ref → Gl → Option (List Leaf × Gl)
 | 0,_,_,g=>some ([],g)
 | n + 1,rows,i,g =>
  match selCol (rows.map (·.headD .junk)) i g with
  | some (l,g)=>match selCols n (rows.map List.tail) i g with
   | some (ls,g)=>some (l :: ls,g)
   | none=>none
  | none=>none
def rowsOf (stride size : Nat) : Nat → List Leaf → List (List Leaf)
 | 0,_=>[]
 | n + 1,cs=>cs.take size :: rowsOf stride size n (cs.drop stride)
def partD (T : Tys) (t : TypeId) (cs : List Leaf) (off stride n : Nat) (i : Ref) (g : Gl) : Option (SA × Gl) :=
 match isAggT T t with
 | some true=>match sizeT T t with
  | some z=>if z ≤ stride ∧ off + stride * n ≤ cs.length then
    match selCols z (rowsOf stride z n (cs.drop off)) i g with
    | some (ls,g)=>some (.agg ls,g)
    | none=>none
   else none
  | none=>none
 | some false=>if 1 ≤ stride ∧ off + stride * n ≤ cs.length then
   match selCols 1 (rowsOf stride 1 n (cs.drop off)) i g with
   | some ([l],g)=>some (.one l,g)
   | _=>none
  else none
 | none=>none
def loadL (T : Tys) (t : TypeId) (m : Mem) : Leaf → Gl → Option (SA × Gl)
 | .ptr id off,g=>match getB m id with
  | some b=>(partS T t b.cells off).map fun v=>(v,g)
  | none=>none
 | .pdx id off stride n i,g=>match getB m id with
  | some b=>partD T t b.cells off stride n i g
  | none=>none
 | .mix c a b,g=>match loadL T t m a g with
  | some (x,g)=>match loadL T t m b g with
   | some (y,g)=>match joinA c x y g with
    | (some z,g)=>some (z,g)
    | (none,_)=>none
   | none=>none
  | none=>none
 | _,_=>none
def joinPre (c : Ref) : List Leaf → List Leaf → Gl → List Leaf × Gl
 | v :: vs,o :: os,g =>
  let (l,g) := joinL c v o g
  let (ls,g) := joinPre c vs os g
  (l :: ls,g)
 | [],os,g=>(os,g)
 | _ :: _,[],g=>([],g)
def putDyn (i : Ref) (vs : List Leaf) (stride : Nat) : Nat → Nat → List Leaf → Gl → List Leaf × Gl
 | _,0,cs,g=>(cs,g)
 | j,n + 1,cs,g =>
  let (c,g) := g.bin .eql .i64 i (.c j)
  let (a,g) := joinPre c vs (cs.take stride) g
  let (b,g) := putDyn i vs stride (j + 1) n (cs.drop stride) g
  (a ++ b,g)
def storeL (m : Mem) (vs : List Leaf) : Leaf → Gl → Option (Mem × Gl)
 | .ptr id off,g=>match getB m id with
  | some b=>if off + vs.length ≤ b.cells.length then some (setB m id (place b.cells off vs),g) else none
  | none=>none
 | .pdx id off stride n i,g=>match getB m id with
  | some b=>if vs.length ≤ stride ∧ off + stride * n ≤ b.cells.length then
    let (cs,g) := putDyn i vs stride 0 n (b.cells.drop off) g
    some (setB m id (b.cells.take off ++ cs),g)
   else none
  | none=>none
 | _,_=>none
def elemP (pc : Ref) (id off n z : Nat) (i : Leaf) (g : Gl) : Option (SV × Gl) :=
 match i with
 | .int k r=>match r with
  | .c j=>if 0 ≤ j ∧ j < n then some (.a (.one (.ptr id (off + j.toNat * z))),g) else none
  | .e _ =>
   let (x,g) := g.bin .geq k r (.c 0)
   let (y,g) := g.bin .lss k r (.c n)
   let g := g.must pc x
   let g := g.must pc y
   some (.a (.one (.pdx id off z n r)),g)
 | _=>none
def rowL (m : Mem) (size : Nat) : Leaf → Option (List Leaf)
 | .nilS=>some []
 | .slc id off len _ | .slu id off len _ | .sla id off len=>match getB m id with
  | some b=>if off + len * size ≤ b.cells.length then some ((b.cells.drop off).take (len * size)) else none
  | none=>none
 | _=>none
def lenS : Leaf → Option Nat
 | .nilS=>some 0
 | .slc _ _ len _=>some len
 | .slu _ _ len _=>some len
 | .sla _ _ len=>some len
 | _=>none
def maxBytes : Nat := 2 ^ 40
def evAppend (T : Tys) (m : Mem) (t : TypeId) (s x : Leaf) : Option (Leaf × Mem) :=
 match undT T t with
 | some (.slice e)=>match sizeT T e,bytesT T e,lenS x,zeroT T e with
  | some z,some by_,some n,some zs=>match rowL m z x with
   | some new=>if new.all Leaf.firm ∧ 0 < z ∧ zs.length = z then
     if n = 0 then (match s with
      | .nilS=>some (.nilS,m)
      | .slc id off len cap=>if len ≤ cap then some (.slc id off len cap,m) else none
      | .slu id off len sz=>some (.slu id off len sz,m)
      | _=>none)
     else match s with
     | .nilS=>if n * by_ ≤ maxBytes ∧ n ≤ maxBytes then some (.slu m.nb 0 n z,newB m e new) else none
     | .slc id off len cap =>
      if len + n ≤ cap then match getB m id with
       | some b=>if off + (len + n) * z ≤ b.cells.length then some (.slc id off (len + n) cap,setB m id (place b.cells (off + len * z) new)) else none
       | none=>none
      else match rowL m z s with
       | some old=>if (len + n) * by_ ≤ maxBytes ∧ len + n ≤ maxBytes ∧ old.all Leaf.firm then some (.slu m.nb 0 (len + n) z,newB m e (old ++ new)) else none
       | none=>none
     | .slu id off len z'=>match getB m id with
      | some b=>if off = 0 ∧ z' = z ∧ len * z = b.cells.length ∧ (len + n) * by_ ≤ maxBytes ∧ len + n ≤ maxBytes ∧ b.cells.all Leaf.firm then
        some (.slu m.nb 0 (len + n) z,⟨⟨m.nb,[],b.cells ++ new,none⟩ :: m.bs.filter (·.id != id),m.nb + 1⟩) else none
      | none=>none
     | _=>none
    else none
   | none=>none
  | _,_,_,_=>none
 | _=>none
def objK (m : Mem) (id : Nat) : Option Nat :=
 match m.bs.find? (·.id == id) with
 | some b=>match b.cs with
  | []=>b.obj
  | _ :: _=>none
 | none=>none
def apBase (m : Mem) (z : Nat) : Leaf → Option (Option Nat × Ref)
 | .opl id n=>if objK m id = some (1000 + z) then some (some id,n) else none
 | .nilS=>some (none,.c 0)
 | .slc _ _ 0 0=>some (none,.c 0)
 | _=>none
def apSrc (m : Mem) (z : Nat) (d : Option Nat) : Leaf → Option Ref
 | .opl id n=>if objK m id = some (1000 + z) ∧ d ≠ some id then some n else none
 | x=>match lenS x,rowL m z x with
  | some k,some new=>if new.all Leaf.firm then some (.c k) else none
  | _,_=>none
def keepD (d : Option Nat) (i : Nat) : Bool :=
 match d with
 | some id=>i != id
 | none=>true
def evAppO (T : Tys) (m : Mem) (pc : Ref) (t : TypeId) (s x : Leaf) (g : Gl) : Option (Leaf × Mem × Gl) :=
 match undT T t with
 | some (.slice e)=>match sizeT T e,bytesT T e,zeroT T e with
  | some z,some by_,some zs =>
   if 0 < z ∧ zs.length = z ∧ zs.all Leaf.firm ∧ 2097152 * by_ ≤ maxBytes then
    match apBase m z s with
    | some (d,n)=>match apSrc m z d x with
     | some k =>
      let (a,g) := g.bin .leq .i64 n (.c 1048576)
      let g := g.must pc a
      let (b,g) := g.bin .leq .i64 k (.c 1048576)
      let g := g.must pc b
      let (r,g) := g.bin .add .i64 n k
      some (.opl m.nb r,⟨⟨m.nb,[],[],some (1000 + z)⟩ :: m.bs.filter (fun b=>keepD d b.id),m.nb + 1⟩,g)
     | none=>none
    | none=>none
   else none
  | _,_,_=>none
 | _=>none
def evAppM (T : Tys) (m : Mem) (pc : Ref) (t : TypeId) (s x : Leaf) (g : Gl) : Option (Leaf × Mem × Gl) :=
 match s with
 | .mix c a b=>match mergeL m (.mix c a b) g with
  | some (s,m,g)=>match evAppO T m pc t s x g with
   | some (l,m',g)=>some (l,m',g)
   | none=>none
  | none=>none
 | s=>evAppO T m pc t s x g
def evCopy (T : Tys) (m : Mem) (t : TypeId) (d x : Leaf) : Option (Leaf × Mem) :=
 match undT T t with
 | some (.slice e)=>match sizeT T e,lenS d,lenS x with
  | some z,some nd,some nx =>
   if min nx nd = 0 then none else
   match rowL m z x with
   | some new =>
    if (new.take (min nx nd * z)).all Leaf.firm then
     match d with
     | .slc id off _ _=>match getB m id with
      | some b=>if off + min nx nd * z ≤ b.cells.length then some (.int .i64 (.c (min nx nd : Nat)),setB m id (place b.cells off (new.take (min nx nd * z)))) else none
      | none=>none
     | .slu id off _ _=>match getB m id with
      | some b=>if off + min nx nd * z ≤ b.cells.length then some (.int .i64 (.c (min nx nd : Nat)),setB m id (place b.cells off (new.take (min nx nd * z)))) else none
      | none=>none
     | .sla id off _=>match getB m id with
      | some b=>if off + min nx nd * z ≤ b.cells.length then some (.int .i64 (.c (min nx nd : Nat)),setB m id (place b.cells off (new.take (min nx nd * z)))) else none
      | none=>none
     | _=>none
    else none
   | none=>none
  | _,_,_=>none
 | _=>none
def cutL (z : Nat) (lo hi mx : Option Nat) : Leaf → Option Leaf
 | .nilS=>if lo.getD 0 = 0 ∧ hi.getD 0 = 0 ∧ mx.getD 0 = 0 then some .nilS else none
 | .slc id off len cap =>
  let m := mx.getD cap
  let h := hi.getD len
  let l := lo.getD 0
  if m ≤ cap ∧ h ≤ m ∧ l ≤ h then some (.slc id (if m = l then off else off + l * z) (h - l) (m - l)) else none
 | .slu id off len z' =>
  let h := hi.getD len
  let l := lo.getD 0
  match mx with
  | some m=>if m ≤ len ∧ h ≤ m ∧ l ≤ h then some (.slc id (if m = l then off else off + l * z) (h - l) (m - l)) else none
  | none=>if h ≤ len ∧ l < h ∧ z' = z then some (.slu id (off + l * z) (h - l) z) else none
 | .sla id off len =>
  let h := hi.getD len
  let l := lo.getD 0
  match mx with
  | some m=>if m ≤ len ∧ h ≤ m ∧ l ≤ h then some (.slc id (if m = l then off else off + l * z) (h - l) (m - l)) else none
  | none=>if h ≤ len ∧ l < h then some (.sla id (off + l * z) (h - l)) else none
 | _=>none
def litO (ev : Ev) : Option Operand → Option (Option Nat)
 | none=>some none
 | some x=>match (ev1 ev x).bind litN with
  | some n=>some (some n)
  | none=>none
def evO_pick (_X : Cx) (ev : Ev) (m : Mem) (_pc : Ref) (g : Gl) (c a b : Operand) : Option (SV × Mem × Gl) :=
 match ev1 ev c,ev a,ev b with
 | some (.bool (.c n)),some va,some vb=>some (if truth n then va else vb,m,g)
 | some (.bool r),some va,some vb =>
  let xa : Option SA := match va with | .a x=>some x | .whn ds x=>if ds = [(r,true)] then some x else none | _=>none
  let xb : Option SA := match vb with | .a x=>some x | .whn ds x=>if ds = [(r,false)] then some x else none | _=>none
  match xa,xb with
  | some xa,some xb=>match joinA r xa xb g with
   | (some z,g)=>some (.a z,m,g)
   | (none,_)=>none
  | _,_=>none
 | _,_,_=>none
def evO_alloc (X : Cx) (_ev : Ev) (m : Mem) (_pc : Ref) (g : Gl) (t : TypeId) : Option (SV × Mem × Gl) :=
 (zeroT X.T t).map fun cs=>(.a (.one (.ptr m.nb 0)),newB m t cs,g)
def evO_box (_X : Cx) (ev : Ev) (m : Mem) (_pc : Ref) (g : Gl) (t : TypeId) (x : Operand) : Option (SV × Mem × Gl) :=
 match evA ev x with
 | some v=>if v.solid then some (.a (.one (.ptr m.nb 0)),newB m t v.cells,g) else none
 | none=>none
def evO_build (X : Cx) (ev : Ev) (m : Mem) (_pc : Ref) (g : Gl) (t : TypeId) (ps : Array (Nat × Operand)) : Option (SV × Mem × Gl) :=
 match zeroT X.T t,partsOf ev ps.toList with
 | some z,some ps=>match undT X.T t with
  | some (.struct fs)=>match fs.toList.mapM (fun f=>(X.T f.type).map fun i=>(f.offset,i.info.size)) with
   | some places=>match fillX (fun i=>places[i]?) z ps with
    | some cs=>some (.a (.agg cs),m,g)
    | none=>none
   | none=>none
  | some (.array _ e)=>match sizeT X.T e with
   | some n=>match fillX (fun i=>some (i * n,n)) z ps with
    | some cs=>some (.a (.agg cs),m,g)
    | none=>none
   | none=>none
  | _=>none
 | _,_=>none
def evO_buildSlice (X : Cx) (ev : Ev) (m : Mem) (_pc : Ref) (g : Gl) (t : TypeId) (len : Nat) (ps : Array (Nat × Operand)) : Option (SV × Mem × Gl) :=
 match undT X.T t with
 | some (.slice e) =>
  match sizeT X.T e,zeroT X.T e,partsOf ev ps.toList with
  | some n,some z,some ps =>
   if z.length = n ∧ 0 < n ∧ len * n ≤ 2 ^ 24 then
    match fillX (fun i=>some (i * n,n)) (List.replicate len z).flatten ps with
    | some cells=>some (.a (.one (.slc m.nb 0 len len)),newB m e cells,g)
    | none=>none
   else none
  | _,_,_=>none
 | _=>none
def evO_makeSlice (X : Cx) (ev : Ev) (m : Mem) (_pc : Ref) (g : Gl) (t : TypeId) (l c : Operand) : Option (SV × Mem × Gl) :=
 match undT X.T t,(ev1 ev l).bind litN,(ev1 ev c).bind litN with
 | some (.slice e),some l,some c =>
  match sizeT X.T e,zeroT X.T e,bytesT X.T e with
  | some n,some z,some by_ =>
   if z.length = n ∧ 0 < n ∧ c * n ≤ 2 ^ 24 ∧ c * by_ ≤ 2 ^ 40 ∧ l ≤ c ∧ c ≤ 2 ^ 40 then
    some (.a (.one (.slc m.nb 0 l c)),newB m e (List.replicate c z).flatten,g)
   else none
  | _,_,_=>none
 | _,_,_=>none
def evO_slice (X : Cx) (ev : Ev) (m : Mem) (_pc : Ref) (g : Gl) (t : TypeId) (x : Operand) (lo hi mx : Option Operand) : Option (SV × Mem × Gl) :=
 if mx.isSome && hi.isNone then none else
 match litO ev lo,litO ev hi,litO ev mx with
 | some lo,some hi,some mx=>match undT X.T t,ev1 ev x with
  | some (.slice e),some l=>match sizeT X.T e with
   | some z=>match cutL z lo hi mx l with
    | some l=>some (.a (.one l),m,g)
    | none=>none
   | none=>none
  | some (.array n e),some (.ptr id off)=>match sizeT X.T e with
   | some z=>match cutL z lo hi mx (.slc id off n n) with
    | some l=>some (.a (.one l),m,g)
    | none=>none
   | none=>none
  | _,_=>none
 | _,_,_=>none
def lessK (g : Gl) (r n : Ref) : Option Int :=
 match r with
 | .e i=>match g.at_ i with
  | some (.bin .sub .i64 x (.c k))=>if x.same n ∧ 0 ≤ k ∧ k ≤ 1048576 then some k else none
  | _=>none
 | .c _=>none
def evO_cutL (X : Cx) (ev : Ev) (m : Mem) (pc : Ref) (g : Gl) (t : TypeId) (x : Leaf) (lo hi mx : Option Operand) : Option (SV × Mem × Gl) :=
 match undT X.T t,x with
 | some (.slice e),.opl id n=>match sizeT X.T e with
  | some z=>if objK m id = some (1000 + z) then
    match hi,mx with
    | some _,some _=>match litO ev lo,litO ev hi,litO ev mx with
     | some ql,some (some 0),some (some 0)=>if ql.getD 0 = 0 then some (.a (.one (.opl m.nb (.c 0))),⟨⟨m.nb,[],[],some (1000 + z)⟩ :: m.bs,m.nb + 1⟩,g) else none
     | _,_,_=>none
    | none,none=>match lo with
     | some y=>match ev1 ev y with
      | some (.int _ r) =>
       match lessK g r n with
       | some k =>
        let (a,g) := g.bin .geq .i64 r (.c 0)
        let g := g.must pc a
        let (c,g) := g.bin .leq .i64 n (.c 1048576)
        let g := g.must pc c
        some (.a (.one (.opl m.nb (.c k))),⟨⟨m.nb,[],[],some (1000 + z)⟩ :: m.bs.filter (fun b=>keepD (some id) b.id),m.nb + 1⟩,g)
       | none =>
       let (a,g) := g.bin .geq .i64 r (.c 0)
       let g := g.must pc a
       let (b,g) := g.bin .leq .i64 r n
       let g := g.must pc b
       let (c,g) := g.bin .leq .i64 n (.c 1048576)
       let g := g.must pc c
       let (q,g) := g.bin .sub .i64 n r
       some (.a (.one (.opl m.nb q)),⟨⟨m.nb,[],[],some (1000 + z)⟩ :: m.bs.filter (fun b=>keepD (some id) b.id),m.nb + 1⟩,g)
      | _=>none
     | none=>none
    | _,_=>none
   else none
  | none=>none
 | _,_=>none
def evO_cut (X : Cx) (ev : Ev) (m : Mem) (pc : Ref) (g : Gl) (t : TypeId) (x : Operand) (lo hi mx : Option Operand) : Option (SV × Mem × Gl) :=
 match ev1 ev x with
 | some (.mix c a b)=>match mergeL m (.mix c a b) g with
  | some (l,m,g)=>match evO_cutL X ev m pc g t l lo hi mx with
   | some r=>some r
   | none=>none
  | none=>none
 | some l=>evO_cutL X ev m pc g t l lo hi mx
 | none=>none
def evO_slice' (X : Cx) (ev : Ev) (m : Mem) (pc : Ref) (g : Gl) (t : TypeId) (x : Operand) (lo hi mx : Option Operand) : Option (SV × Mem × Gl) :=
 match evO_slice X ev m pc g t x lo hi mx with
 | some r=>some r
 | none=>evO_cut X ev m pc g t x lo hi mx
def evO_load (X : Cx) (ev : Ev) (m : Mem) (_pc : Ref) (g : Gl) (t : TypeId) (x : Operand) : Option (SV × Mem × Gl) :=
 match ev1 ev x with
 | some l=>(loadL X.T t m l g).map fun (v,g)=>(.a v,m,g)
 | none=>none
def evO_store (X : Cx) (ev : Ev) (m : Mem) (_pc : Ref) (g : Gl) (t : TypeId) (x y : Operand) : Option (SV × Mem × Gl) :=
 match ev1 ev x,evA ev y,sizeT X.T t with
 | some l,some v,some n =>
  if v.cells.length = n ∧ v.cells.all Leaf.firm then
   (storeL m v.cells l g).map fun (m,g)=>(.a (.one .junk),m,g)
  else none
 | _,_,_=>none
def evO_nilCheck (_X : Cx) (ev : Ev) (m : Mem) (_pc : Ref) (g : Gl) (x : Operand) : Option (SV × Mem × Gl) :=
 match ev1 ev x with
 | some (.ptr id off)=>some (.a (.one (.ptr id off)),m,g)
 | some (.pdx id off st n i)=>some (.a (.one (.pdx id off st n i)),m,g)
 | some (.fn f cs)=>some (.a (.one (.fn f cs)),m,g)
 | _=>none
def evO_binOp (X : Cx) (ev : Ev) (m : Mem) (pc : Ref) (g : Gl) (op : BinOp) (t : TypeId) (x y : Operand) : Option (SV × Mem × Gl) :=
 (evBin X ev pc g op t x y).map fun (v,g)=>(v,m,g)
def evO_unOp (_X : Cx) (ev : Ev) (m : Mem) (_pc : Ref) (g : Gl) (op : UnOp) (x : Operand) : Option (SV × Mem × Gl) :=
 match op,ev1 ev x with
 | .neg,some (.int k r)=>let (r,g) := g.bin .sub k (.c 0) r; some (.a (.one (.int k r)),m,g)
 | .xor,some (.int k r)=>let (r,g) := g.bin .xor k (.c (if k.signed then -1 else k.max)) r; some (.a (.one (.int k r)),m,g)
 | .not,some (.bool r)=>let (r,g) := g.not r; some (.a (.one (.bool r)),m,g)
 | _,_=>none
def evO_convert (X : Cx) (ev : Ev) (m : Mem) (_pc : Ref) (g : Gl) (src dst : TypeId) (x : Operand) : Option (SV × Mem × Gl) :=
 match undT X.T src,undT X.T dst,ev1 ev x with
 | some _,some (.int k),some (.int _ r)=>match r with
  | .c n=>some (.a (.one (.int k (.c (k.wrap n)))),m,g)
  | .e i=>let (r,g) := g.push (.wrap k (.e i)); some (.a (.one (.int k r)),m,g)
 | _,_,_=>none
def evO_makeInterface (X : Cx) (ev : Ev) (m : Mem) (_pc : Ref) (g : Gl) (t : TypeId) (x : Operand) : Option (SV × Mem × Gl) :=
 match undT X.T t with
 | some d=>match d with
  | .interface _=>none
  | _=>match ev1 ev x with
   | some l=>some (.a (.one (.ifc t l)),m,g)
   | none=>none
 | none=>none
def evO_makeFunc (_X : Cx) (ev : Ev) (m : Mem) (_pc : Ref) (g : Gl) (f : FuncId) (first caps : Array Operand) : Option (SV × Mem × Gl) :=
 if first.isEmpty then (evList (caps.toList.map (ev1 ev))).map fun ls=>(.a (.one (.fn f (capsTo ls))),m,g) else none
def evO_fieldAddr (X : Cx) (ev : Ev) (m : Mem) (_pc : Ref) (g : Gl) (t : TypeId) (x : Operand) (f : Nat) : Option (SV × Mem × Gl) :=
 match ev1 ev x,fieldT X.T t f with
 | some l,some (d,u)=>match sizeT X.T u with
  | some 0=>none
  | some _=>match l with
   | .ptr id off=>some (.a (.one (.ptr id (off + d))),m,g)
   | .pdx id off st n i=>some (.a (.one (.pdx id (off + d) st n i)),m,g)
   | _=>none
  | none=>none
 | _,_=>none
def evO_field (X : Cx) (ev : Ev) (m : Mem) (_pc : Ref) (g : Gl) (t : TypeId) (x : Operand) (f : Nat) : Option (SV × Mem × Gl) :=
 match evA ev x,fieldT X.T t f with
 | some (.agg cs),some (d,u)=>(partS X.T u cs d).map fun v=>(.a v,m,g)
 | _,_=>none
def evO_indexAddr (X : Cx) (ev : Ev) (m : Mem) (pc : Ref) (g : Gl) (t : TypeId) (x i : Operand) : Option (SV × Mem × Gl) :=
 match undT X.T t,ev1 ev x,ev1 ev i with
 | some (.array n e),some (.ptr id off),some i=>match sizeT X.T e with
  | some z=>(elemP pc id off n z i g).map fun (v,g)=>(v,m,g)
  | none=>none
 | some (.slice e),some (.slc id off n _),some i=>match sizeT X.T e with
  | some z=>(elemP pc id off n z i g).map fun (v,g)=>(v,m,g)
  | none=>none
 | some (.slice e),some (.slu id off n _),some i=>match sizeT X.T e with
  | some z=>(elemP pc id off n z i g).map fun (v,g)=>(v,m,g)
  | none=>none
 | some (.slice e),some (.sla id off n),some i=>match sizeT X.T e with
  | some z=>(elemP pc id off n z i g).map fun (v,g)=>(v,m,g)
  | none=>none
 | _,_,_=>none
def strAt (s : ByteArray) (pc : Ref) (i : Leaf) (g : Gl) : Option (Leaf × Gl) :=
 match i with
 | .int k r=>match r with
  | .c j=>if 0 ≤ j then match s.data.toList[j.toNat]? with
    | some b=>some (.int .u8 (.c b.toNat),g)
    | none=>none
   else none
  | .e _ =>
   let (x,g) := g.bin .geq k r (.c 0)
   let (y,g) := g.bin .lss k r (.c s.data.toList.length)
   let g := g.must pc x
   let g := g.must pc y
   let (q,g) := g.push (.sel (s.data.toList.map fun b=>.c b.toNat) r)
   some (.int .u8 q,g)
 | _=>none
def strLit : Operand → Option ByteArray
 | .const (.string s)=>some s
 | _=>none
def evO_index (X : Cx) (ev : Ev) (m : Mem) (pc : Ref) (g : Gl) (t : TypeId) (x i : Operand) : Option (SV × Mem × Gl) :=
 match strLit x with
 | some s=>match undT X.T t,ev1 ev i with
  | some .string,some l=>(strAt s pc l g).map fun (l,g)=>(.a (.one l),m,g)
  | _,_=>none
 | none =>
 match undT X.T t,evA ev x,ev1 ev i with
 | some (.array n e),some (.agg cs),some (.int k r)=>match sizeT X.T e with
  | some z=>match r with
   | .c j=>if 0 ≤ j ∧ j < n then (partS X.T e cs (j.toNat * z)).map fun v=>(.a v,m,g) else none
   | .e _ =>
    let (x,g) := g.bin .geq k r (.c 0)
    let (y,g) := g.bin .lss k r (.c n)
    let g := g.must pc x
    let g := g.must pc y
    (partD X.T e cs 0 z n r g).map fun (v,g)=>(.a v,m,g)
  | none=>none
 | _,_,_=>none
def evO_extract (_X : Cx) (ev : Ev) (m : Mem) (_pc : Ref) (g : Gl) (x : Operand) (i : Nat) : Option (SV × Mem × Gl) :=
 match ev x with
 | some (.tup xs)=>(xs[i]?).map fun v=>(.a v,m,g)
 | _=>none
def assertL (z : Leaf) (t : TypeId) : Leaf → Gl → Option (Leaf × Ref × Gl)
 | .nilI,g=>some (z,.c 0,g)
 | .ifc u x,g=>if u = t then some (x,.c 1,g) else some (z,.c 0,g)
 | .mix c a b,g =>
  match assertL z t a g with
  | some (x,r,g)=>match assertL z t b g with
   | some (y,s,g) =>
    let (l,g) := joinL c x y g
    let (q,g) := g.ite c r s
    some (l,q,g)
   | none=>none
  | none=>none
 | _,_=>none
def evO_typeAssert (X : Cx) (ev : Ev) (m : Mem) (_pc : Ref) (g : Gl) (x : Operand) (t : TypeId) (ok : Bool) : Option (SV × Mem × Gl) :=
 match undT X.T t with
 | some d=>match d with
  | .interface _=>none
  | _=>match ok,ev1 ev x,(X.T t).bind (·.info.zero) with
   | true,some l,some zv=>match svOf zv with
    | .a (.one z)=>match assertL z t l g with
     | some (y,r,g)=>some (.tup [.one y,.one (.bool r)],m,g)
     | none=>none
    | _=>none
   | _,_,_=>none
 | none=>none
def evOp (X : Cx) (ev : Ev) (m : Mem) (pc : Ref) (g : Gl) (o : Oper) : Option (SV × Mem × Gl) :=
 match o.op with
 | .move x | .assign x=>(ev x).map fun v=>(v,m,g)
 | .pick c a b=>evO_pick X ev m pc g c a b
 | .alloc t=>evO_alloc X ev m pc g t
 | .box t x=>evO_box X ev m pc g t x
 | .build t ps=>evO_build X ev m pc g t ps
 | .buildSlice t len ps=>evO_buildSlice X ev m pc g t len ps
 | .makeSlice t l c=>evO_makeSlice X ev m pc g t l c
 | .slice t x lo hi mx=>evO_slice' X ev m pc g t x lo hi mx
 | .load t x=>evO_load X ev m pc g t x
 | .store t x y=>evO_store X ev m pc g t x y
 | .nilCheck x=>evO_nilCheck X ev m pc g x
 | .binOp op t x y _=>evO_binOp X ev m pc g op t x y
 | .unOp op _ x=>evO_unOp X ev m pc g op x
 | .convert src dst x=>evO_convert X ev m pc g src dst x
 | .makeInterface t x=>evO_makeInterface X ev m pc g t x
 | .makeFunc (.func f) first caps=>evO_makeFunc X ev m pc g f first caps
 | .fieldAddr t x f=>evO_fieldAddr X ev m pc g t x f
 | .field t x f=>evO_field X ev m pc g t x f
 | .indexAddr t x i=>evO_indexAddr X ev m pc g t x i
 | .index t x i=>evO_index X ev m pc g t x i
 | .extract x i=>evO_extract X ev m pc g x i
 | .typeAssert x _ t ok=>evO_typeAssert X ev m pc g x t ok
 | _=>none
abbrev CallF := FuncId → List SV → Mem → Ref → Gl → Option (SV × Mem × Gl)
def evCall (X : Cx) (call : CallF) (ev : Ev) (m : Mem) (pc : Ref) (g : Gl) (c : Call) : Option (SV × Mem × Gl) :=
 match evList (c.args.toList.map ev) with
 | none=>none
 | some args =>
  match c.callee with
  | .builtin .min=>match ones args with
   | some (l :: ls)=>match evMin false l ls g with
    | some (l,g)=>some (.a (.one l),m,g)
    | none=>none
   | _=>none
  | .builtin .max=>match ones args with
   | some (l :: ls)=>match evMin true l ls g with
    | some (l,g)=>some (.a (.one l),m,g)
    | none=>none
   | _=>none
  | .builtin .len=>match args,c.argTypes[0]? with
   | [.a x],some t=>match lenO X.T t x with
    | some n=>some (.a (.one (.int .i64 n)),m,g)
    | none=>match undT X.T t with
     | some (.slice _)=>match x with
      | .one l=>match lenLf l g with
       | some (n,g)=>some (.a (.one (.int .i64 n)),m,g)
       | none=>none
      | .agg _=>none
     | _=>none
   | _,_=>none
  | .builtin .append=>match args,c.argTypes.toList with
   | [.a (.one s),.a (.one x)],[t,u]=>match undT X.T u with
    | some (.slice _)=>match evAppend X.T m t s x with
     | some (l,m)=>some (.a (.one l),m,g)
     | none=>match evAppM X.T m pc t s x g with
      | some (l,m,g)=>some (.a (.one l),m,g)
      | none=>none
    | _=>none
   | _,_=>none
  | .builtin .copy=>match args,c.argTypes.toList with
   | [.a (.one d),.a (.one x)],[t,_]=>match evCopy X.T m t d x with
    | some (l,m)=>some (.a (.one l),m,g)
    | none=>none
   | _,_=>none
  | .value f=>match ev1 ev f with
   | some (.fn f caps)=>call f (args ++ capsOf caps) m pc g
   | _=>none
  | _=>none
def evAny (X : Cx) (call : CallF) (ev : Ev) (m : Mem) (pc : Ref) (g : Gl) (o : Oper) : Option (SV × Mem × Gl) :=
 match o.op with
 | .call c=>evCall X call ev m pc g c
 | _=>evOp X ev m pc g o
def unwV (cs : List (Ref × Bool)) (v : SV) : SV :=
 match v with
 | .whn ds x=>let rest := ds.filter fun d=>decide (d ∉ cs)
  if rest = [] then .a x else .whn rest x
 | v=>v
def conjC : List (Ref × Bool) → Gl → Ref × Gl
 | [],g=>(.c 1,g)
 | (r,w) :: cs,g =>
  let (x,g) := if w then (r,g) else g.not r
  let (y,g) := conjC cs g
  g.and x y
def guardV : SV → Option (List (Ref × Bool) × Ref)
 | .a (.one (.bool r))=>some ([],r)
 | .whn cs (.one (.bool r))=>some (cs,r)
 | _=>none
def evOper (X : Cx) (call : CallF) (ops : Array Oper) (tmps : List SV) (m : Mem) (pc : Ref) (g : Gl) (o : Oper) : Option (SV × Mem × Gl) :=
 match o.guard with
 | none=>evAny X call (evX X tmps) m pc g o
 | some (j,want) =>
  match ((ops[j]?).bind (·.dst)).bind (tmps[·]?) with
  | some (.tup [])=>some (.tup [],m,g)
  | some gv =>
   match guardV gv with
   | some (cs,r) =>
    if r = .c 0 ∧ want = true ∨ r = .c 1 ∧ want = false then some (.tup [],m,g)
    else if cs = [] ∧ (r = .c 1 ∧ want = true ∨ r = .c 0 ∧ want = false) then evAny X call (evX X tmps) m pc g o
    else
     let cs := cs ++ [(r,want)]
     let (nr,g) := conjC cs g
     let (pc,g) := g.and pc nr
     match evAny X call (fun x=>(evX X tmps x).map (unwV cs)) m pc g o with
     | some (.a v,m',g) =>
      let (z,g) := joinMem nr m' m g
      some (.whn cs v,z,g)
     | some (.whn ds v,m',g) =>
      let (z,g) := joinMem nr m' m g
      some (.whn (cs ++ ds) v,z,g)
     | _=>none
   | none=>none
  | none=>none
def putT (ts : List SV) (d : Option Tmp) (v : SV) : List SV :=
 match d with
 | some d=>ts.set d v
 | none=>ts
def evOpers (X : Cx) (call : CallF) (ops : Array Oper) : List Oper → Lo → Gl → Option (Lo × Gl)
 | [],s,g=>some (s,g)
 | o :: l,s,g=>match evOper X call ops s.tmps s.mem s.pc g o with
  | some (v,m,g)=>evOpers X call ops l ⟨putT s.tmps o.dst v,m,s.pc⟩ g
  | none=>none
def befs : List Oper → List Nat → List Nat
 | [],acc=>acc
 | o :: l,acc=>befs l (acc ++ [o.after.toList.foldl (fun b e=>if Region.binds .any e then b ||| (1 <<< e.on) ||| acc.getD e.on 0 else b) 0])
def backE (ops : Array Oper) : Bool := ops.toList.zipIdx.all fun (o,j)=>o.after.toList.all fun e=>!Region.binds .any e || decide (e.on < j)
def svIds : SV → List Nat
 | .a (.one l) | .whn _ (.one l)=>leafIds l
 | _=>[]
def needs (ev : Ev) (o : Oper) : Option (List Nat) :=
 match o.op with
 | .load _ x=>some (match ev x with | some v=>svIds v | none=>[])
 | .store _ x _=>some (match ev x with | some v=>svIds v | none=>[])
 | .call c=>match c.callee with
  | .builtin _=>some (c.args.toList.flatMap fun x=>match ev x with | some v=>svIds v | none=>[])
  | _=>none
 | _=>some []
structure Rec where
 i : Nat
 o : Oper
 fin : List SB
 fout : List SB
 ids : List Nat
 v : SV
 lo : Nat
 hi : Nat
 pk : Option (TypeId × Nat × Nat)
def idsOf (l : List SB) : List Nat := l.map (·.id)
def apartL (a b : List Nat) : Bool := a.all fun x=>!b.contains x
def applyB (fin fout mem : List SB) : List SB :=
 fout.filter (fun b=>!(idsOf fin).contains b.id) ++ mem.filterMap fun b=>if (idsOf fin).contains b.id then fout.find? (·.id == b.id) else some b
def finOf (nd : Option (List Nat)) (fids : List Nat) (bs : List SB) : List SB :=
 match nd with
 | some l=>bs.filter fun b=>l.contains b.id && !fids.contains b.id && b.cs.isEmpty
 | none=>bs.filter fun b=>!fids.contains b.id && b.cs.isEmpty
def pkOf (ev : Ev) (o : Oper) : Option (TypeId × Nat × Nat) :=
 match o.guard with
 | some _=>none
 | none=>match o.op with
  | .load t x=>match ev1 ev x with
   | some (.ptr id off)=>some (t,id,off)
   | _=>none
  | _=>none
def finX (pk : Option (TypeId × Nat × Nat)) (nd : Option (List Nat)) (fids : List Nat) (bs : List SB) : List SB :=
 match pk with
 | some p=>bs.filter fun b=>Nat.beq b.id p.2.1 && b.cs.isEmpty
 | none=>finOf nd fids bs
def pkIf (q : Bool) (ids : List Nat) (pk : Option (TypeId × Nat × Nat)) : Option (TypeId × Nat × Nat) := if q && ids.isEmpty then pk else none
def pkSame (T : Tys) (t : TypeId) (id off : Nat) (z : SA) (c : SB) : Bool :=
 !Nat.beq c.id id || (c.obj.isNone && c.cs.isEmpty && match partS T t c.cells off with | some y=>y.same z | none=>false)
def pkOk (T : Tys) (x r : Rec) : Bool :=
 match r.pk with
 | none=>false
 | some (t,id,off)=>match r.v with
  | .a z=>x.fin.any (fun c=>Nat.beq c.id id) && x.fout.any (fun c=>Nat.beq c.id id) && x.fin.all (pkSame T t id off z) && x.fout.all (pkSame T t id off z)
  | _=>false
def sameSB (a b : SB) : Bool := Nat.beq a.id b.id && sameCs a.cs b.cs && (match a.obj with
 | none=>b.obj.isNone
 | some i=>match b.obj with
  | some j=>Nat.beq i j
  | none=>false) && sames a.cells b.cells
def sameSBs : List SB → List SB → Bool
 | [],b=>match b with
  | []=>true
  | _ :: _=>false
 | x :: xs,b=>match b with
  | y :: ys=>match sameSB x y with
   | true=>sameSBs xs ys
   | false=>false
  | []=>false
theorem sameSB_ok {a b : SB} (h : sameSB a b = true) : a = b := by
 obtain ⟨i,t,c,o⟩ := a
 obtain ⟨i',t',c',o'⟩ := b
 simp only [sameSB,Bool.and_eq_true] at h
 obtain ⟨⟨⟨h1,h2⟩,h3⟩,h4⟩ := h
 obtain rfl := Nat.eq_of_beq_eq_true h1
 obtain rfl := sameCs_ok h2
 obtain rfl := sames_ok h4
 cases o <;> cases o' <;> simp only [Option.isNone_none,Option.isNone_some] at h3
 ·rfl
 ·cases h3
 ·cases h3
 ·rw [Nat.eq_of_beq_eq_true h3]
theorem sameSBs_ok : ∀ {a b : List SB},sameSBs a b = true → a = b
 | [],[],_=>rfl
 | [],_ :: _,h=>by cases h
 | _ :: _,[],h=>by cases h
 | x :: xs,y :: ys,h=>by
  simp only [sameSBs] at h
  split at h
  ·rename_i hr; rw [sameSB_ok hr,sameSBs_ok h]
  ·cases h
def evDraw (X : Cx) (call : CallF) (ops : Array Oper) (bef : List Nat) : List (Oper × Nat) → Lo → List Rec → Gl → Option (Lo × Gl)
 | [],s,_,g=>some (s,g)
 | (o,j) :: rest,s,recs,g =>
  let bj := bef.getD j 0
  let free := recs.filter fun r=>!bj.testBit r.i
  let fids := free.flatMap (·.ids)
  let pk := pkOf (evX X s.tmps) o
  let fin := finX pk (needs (evX X s.tmps) o) fids s.mem.bs
  match evOper X call ops s.tmps ⟨fin,s.mem.nb⟩ s.pc g o with
  | none=>none
  | some (v,m',g') =>
   let k := m'.bs.length - fin.length
   let quiet := pk.isSome || sameSBs (m'.bs.drop k) fin
   let ids := if quiet then idsOf (m'.bs.take k) else idsOf fin ++ idsOf m'.bs
   let mem' := if quiet then m'.bs.take k ++ s.mem.bs else applyB fin m'.bs s.mem.bs
   let r' : Rec := ⟨j,o,fin,m'.bs,ids,v,s.mem.nb,m'.nb,pkIf quiet ids pk⟩
   if free.all (fun r=>Oper.apart ops r.o o && apartL r.ids ids && (apartL r.ids (idsOf fin) || pkOk X.T r r') && (apartL ids (idsOf r.fin) || pkOk X.T r' r)) then
    evDraw X call ops bef rest ⟨putT s.tmps o.dst v,⟨mem',m'.nb⟩,s.pc⟩ (r' :: recs) g'
   else none
def evRegion (X : Cx) (call : CallF) (ops : Array Oper) (draw : Bool) (s : Lo) (g : Gl) : Option (Lo × Gl) :=
 if draw then
  if backE ops then evDraw X call ops (befs ops.toList []) ops.toList.zipIdx s [] g else none
 else evOpers X call ops ops.toList s g
inductive Kd where
 | norm | exit (id : Nat) | ret
 deriving DecidableEq,Repr
abbrev Outs := List (Kd × Ref × Lo)
def takeK (k : Kd) : Outs → Option (Ref × Lo) × Outs
 | []=>(none,[])
 | (k',r,s) :: l=>if k' = k then (some (r,s),l) else let (x,l) := takeK k l; (x,(k',r,s) :: l)
def offO (c : Ref) : Outs → Gl → Outs × Gl
 | [],g=>([],g)
 | (k,r,s) :: l,g =>
  let (q,g) := g.ite c (.c 0) r
  let (l,g) := offO c l g
  ((k,q,s) :: l,g)
def joinO (c : Ref) : Outs → Outs → Gl → Outs × Gl
 | [],b,g=>offO c b g
 | (k,r,s) :: a,b,g =>
  match takeK k b with
  | (some (r',s'),b) =>
   let (q,g) := g.ite c r r'
   let (z,g) := joinLo c s s' g
   let (l,g) := joinO c a b g
   ((k,q,z) :: l,g)
  | (none,b) =>
   let (q,g) := g.ite c r (.c 0)
   let (l,g) := joinO c a b g
   ((k,q,s) :: l,g)
def pcs (pc : Ref) : Outs → Gl → Outs × Gl
 | [],g=>([],g)
 | (k,r,s) :: l,g =>
  let (q,g) := g.and pc r
  let (l,g) := pcs pc l g
  ((k,r,{ s with pc := q }) :: l,g)
def bumpO (n : Nat) (o : Outs) : Outs := o.map fun (k,r,s)=>(k,r,{ s with mem := ⟨s.mem.bs,max n s.mem.nb⟩ })
def topN : Nat → Outs → Nat
 | n,[]=>n
 | n,(_,_,s) :: l=>topN (max n s.mem.nb) l
theorem topN_ge : ∀ {l : Outs} {n : Nat},n ≤ topN n l
 | [],_=>Nat.le_refl _
 | _ :: l,_n=>Nat.le_trans (Nat.le_max_left _ _) (topN_ge (l := l))
def isLit0 : Ref → Bool
 | .c 0=>true
 | _=>false
abbrev CodeF := Code → Lo → Gl → Option (Outs × Gl)
def evC_join (r : Ref) (ob rest : Outs) (pc : Ref) (g : Gl) : Option (Outs × Gl) :=
 if rest.isEmpty then some (ob,g) else
 let (l,g) := joinO r ob rest g
 some (pcs pc l g)
def evC_region (X : Cx) (call : CallF) (ops : Array Oper) (draw : Bool) (s : Lo) (g : Gl) : Option (Outs × Gl) :=
 match evRegion X call ops draw s g with
 | some (s,g)=>some ([(.norm,.c 1,s)],g)
 | none=>match evRegion X call ops draw (resS g s) g with
  | some (s,g)=>some ([(.norm,.c 1,s)],g)
  | none=>none
def evC_seq (rec : CodeF) (a b : Code) (s : Lo) (g : Gl) : Option (Outs × Gl) :=
 match rec a s g with
 | none=>none
 | some (oa,g)=>match takeK .norm oa with
  | (none,_)=>some (oa,g)
  | (some (r,s'),rest) =>
   if rest.isEmpty then rec b s' g else
   match rec b s' g with
   | none=>none
   | some (ob,g)=>evC_join r ob rest s.pc g
theorem evC_seq_eq (rec : CodeF) (a b : Code) (s : Lo) (g : Gl) : evC_seq rec a b s g = (match rec a s g with
 | none=>none
 | some (oa,g)=>match takeK .norm oa with
  | (none,_)=>some (oa,g)
  | (some (r,s'),rest)=>match rec b s' g with
   | none=>none
   | some (ob,g)=>evC_join r ob rest s.pc g) := by
 unfold evC_seq
 split
 ·rfl
 ·split
  ·rfl
  ·split
   ·rename_i h
    split <;> simp_all [evC_join]
   ·rfl
def evC_both (rec : CodeF) (r : Ref) (a b : Code) (s : Lo) (g : Gl) : Option (Outs × Gl) :=
 let (p,g) := g.and s.pc r
 match rec a { s with pc := p } g with
 | none=>none
 | some (oa,g) =>
  let (nr,g) := g.not r
  let (p,g) := g.and s.pc nr
  match rec b { s with pc := p,mem := ⟨s.mem.bs,topN s.mem.nb oa⟩ } g with
  | none=>none
  | some (ob,g) =>
   let (l,g) := joinO r oa ob g
   some (pcs s.pc l g)
def evC_cond (X : Cx) (rec : CodeF) (x : Operand) (a b : Code) (s : Lo) (g : Gl) : Option (Outs × Gl) :=
 match ev1 (evX X s.tmps) x with
 | some (.bool r)=>match r with
  | .c n=>rec (if truth n then a else b) s g
  | .e i=>evC_both rec (.e i) a b s g
 | _=>none
def evC_out (r : Ref) (s1 : Lo) (o : Outs) (pc : Ref) (g : Gl) : Option (Outs × Gl) :=
 match takeK .norm o with
 | (none,_)=>some ((.norm,r,s1) :: o,g)
 | (some (r',s2),o) =>
  let (q,g) := g.or r r'
  let (z,g) := joinLo r s1 s2 g
  some (pcs pc ((.norm,q,z) :: o) g)
def evC_block (rec : CodeF) (id : Nat) (c : Code) (s : Lo) (g : Gl) : Option (Outs × Gl) :=
 match rec c s g with
 | none=>none
 | some (o,g)=>match takeK (.exit id) o with
  | (none,_)=>some (o,g)
  | (some (r,s1),o)=>evC_out r s1 o s.pc g
def mergeB (m : Mem) (id off : Nat) (g : Gl) : Option (Mem × Gl) :=
 match getB m id with
 | some b=>match b.cells[off]? with
  | some l=>match mergeL m l g with
   | some (l',m',g')=>match getB m' id with
    | some b'=>if b'.cells = b.cells then some (setB m' id (b.cells.set off l'),g') else none
    | none=>none
   | none=>none
  | none=>none
 | none=>none
def isMixO : Leaf → Bool
 | .mix _ a _=>match mkOf a with
  | some .ol=>true
  | _=>false
 | _=>false
def mixO : List Leaf → Nat → Option Nat
 | [],_=>none
 | l :: ls,n=>match isMixO l with
  | true=>some n
  | false=>mixO ls (n + 1)
def mixAt : List SB → Option (Nat × Nat)
 | []=>none
 | b :: bs=>match mixO b.cells 0 with
  | some o=>some (b.id,o)
  | none=>mixAt bs
def mgS (s : Lo) (g : Gl) : Lo × Gl :=
 match s.mem.bs.any fun b=>b.obj.isSome && !b.cs.isEmpty with
 | false=>(s,g)
 | true=>match mixAt s.mem.bs with
  | some p=>match mergeB s.mem p.1 p.2 g with
   | some r=>({ s with mem := r.1 },r.2)
   | none=>(s,g)
  | none=>(s,g)
def evC_loop (rec : CodeF) (c : Code) (s : Lo) (g : Gl) : Option (Outs × Gl) :=
 match rec c s g with
 | none=>none
 | some (oa,g)=>match takeK .norm oa with
  | (none,_)=>some (oa,g)
  | (some (r,s'),rest) =>
   if isLit0 r then (if rest.isEmpty then none else some (bumpO s'.mem.nb rest,g)) else
   if rest.isEmpty then rec (.loop c) s' g else
   match rec (.loop c) s' g with
   | none=>none
   | some (ob,g)=>evC_join r ob rest s.pc g
theorem evC_loop_eq (rec : CodeF) (c : Code) (s : Lo) (g : Gl) : evC_loop rec c s g = (match rec c s g with
 | none=>none
 | some (oa,g)=>match takeK .norm oa with
  | (none,_)=>some (oa,g)
  | (some (r,s'),rest) =>
   if isLit0 r then (if rest.isEmpty then none else some (bumpO s'.mem.nb rest,g)) else
   match rec (.loop c) s' g with
   | none=>none
   | some (ob,g)=>evC_join r ob rest s.pc g) := by
 unfold evC_loop
 split
 ·rfl
 ·split
  ·rfl
  ·split
   ·rfl
   ·split
    ·rename_i h
     split <;> simp_all [evC_join]
    ·rfl
def evCode (X : Cx) (call : CallF) : Nat → Code → Lo → Gl → Option (Outs × Gl)
 | 0,_,_,_=>none
 | f + 1,c,s,g =>
  match c with
  | .skip=>some ([(.norm,.c 1,s)],g)
  | .label _=>some ([(.norm,.c 1,s)],g)
  | .ret=>some ([(.ret,.c 1,s)],g)
  | .exit id=>some ([(.exit id,.c 1,s)],g)
  | .region _ ops draw=>evC_region X call ops draw s g
  | .seq a b=>evC_seq (evCode X call f) a b s g
  | .cond x a b=>evC_cond X (evCode X call f) x a b s g
  | .block id c=>evC_block (evCode X call f) id c s g
  | .loop c=>evC_loop (evCode X call f) c (mgS s g).1 (mgS s g).2
  | .scope c=>evCode X call f c s g
  | _=>none
def evRes (X : Cx) (s : Lo) : List ResultVar → Option (List SA)
 | []=>some []
 | .tmp t :: l=>match s.tmps[t]? with
  | some (.a v)=>(evRes X s l).map (v :: ·)
  | _=>none
 | .cell a t :: l=>match s.tmps[a]? with
  | some (.a (.one (.ptr id off)))=>match getB s.mem id with
   | some b=>match partS X.T t b.cells off with
    | some v=>(evRes X s l).map (v :: ·)
    | none=>none
   | none=>none
  | _=>none
def oneWay (empty : Bool) (o : Outs) (g : Gl) : Option (Lo × Gl) :=
 match o with
 | [(.ret,_,s)]=>some (s,g)
 | [(.norm,_,s)]=>if empty then some (s,g) else none
 | [(.ret,r,s),(.norm,_,s')]=>if empty then some (joinLo r s s' g) else none
 | [(.norm,r,s),(.ret,_,s')]=>if empty then some (joinLo r s s' g) else none
 | _=>none
def evFn (X : Cx) : Nat → Nat → CallF
 | 0,_,_,_,_,_,_=>none
 | d + 1,fuel,f,args,m,pc,g =>
  match X.ctr f with
  | some c=>c.run args m pc g
  | none =>
  match X.F f with
  | none=>none
  | some fn=>match fn.body with
   | none=>none
   | some c =>
    if args.length ≤ fn.ntmps then
     match evCode X (evFn X d fuel) fuel c ⟨args ++ List.replicate (fn.ntmps - args.length) (.a (.one .junk)),m,pc⟩ g with
     | some (o,g)=>match oneWay fn.results.isEmpty o g with
      | some (s',g)=>match evRes X s' fn.results.toList with
       | some [v]=>some (.a v,s'.mem,g)
       | some vs=>some (.tup vs,s'.mem,g)
       | none=>none
      | none=>none
     | none=>none
    else none
section
variable (I : Nat → Int) (X : Nat → List Int → Int) (E : Nat → Int)
def GoodL : Nat → List Df → Prop
 | n + 1,d :: ds=>E n = d.den I X E ∧ GoodL n ds
 | 0,[]=>True
 | _,_=>False
def Good (g : Gl) : Prop := GoodL I X E g.nd g.defs ∧ ∀ p ∈ g.obl,truth (p.1.val E) = true → truth (p.2.val E) = true
end
section
variable {I : Nat → Int} {X : Nat → List Int → Int} {E : Nat → Int} {g g' : Gl} {r : Ref}
theorem truth_ofB (b : Bool) : truth (ofB b) = b := by cases b <;> rfl
theorem push_ok {d : Df} (h : g.push d = (r,g')) (H : Good I X E g') : Good I X E g ∧ r.val E = d.den I X E := by
 unfold Gl.push at h
 injection h with h1 h2
 subst h1; subst h2
 exact ⟨⟨H.1.2,H.2⟩,H.1.1⟩
theorem goodL_at : ∀ {n : Nat} {ds : List Df},GoodL I X E n ds → ∀ {i : Nat} {d : Df},i < n → ds[n - 1 - i]? = some d → E i = d.den I X E
 | 0,_,_,_,_,hi,_=>absurd hi (Nat.not_lt_zero _)
 | n + 1,[],h,_,_,_,_=>h.elim
 | n + 1,x :: ds,h,i,d,hi,hd=>by
  by_cases e : i = n
  ·subst e
   have e0 : i + 1 - 1 - i = 0 := by omega
   rw [e0] at hd
   simp only [List.getElem?_cons_zero,Option.some.injEq] at hd
   rw [← hd]
   exact h.1
  ·have e1 : n + 1 - 1 - i = (n - 1 - i) + 1 := by omega
   rw [e1,List.getElem?_cons_succ] at hd
   exact goodL_at h.2 (by omega) hd
theorem at_ok (H : Good I X E g) {i : Nat} {d : Df} (h : g.at_ i = some d) : E i = d.den I X E := by
 unfold Gl.at_ at h
 split at h
 ·rename_i hi
  exact goodL_at H.1 hi h
 ·cases h
theorem neverN_ok (H : Good I X E g) {n : Int} : ∀ (f : Nat) {r : Ref},neverN g n f r = true → (r.val E == n) = false
 | 0,_,h=>by cases h
 | f + 1,r,h=>by
  cases r with
  | c m=>simpa [neverN,Ref.val] using h
  | e i =>
   simp only [neverN] at h
   split at h
   ·rename_i c a b hd
    have hv := at_ok H hd
    rw [Bool.and_eq_true] at h
    simp only [Ref.val]
    rw [hv,Df.den]
    split
    ·exact neverN_ok H f h.1
    ·exact neverN_ok H f h.2
   ·cases h
theorem bin_ok {o : BinOp} {k : IntKind} {x y : Ref} (h : g.bin o k x y = (r,g')) (H : Good I X E g') : Good I X E g ∧ r.val E = intSem o k (x.val E) (y.val E) := by
 unfold Gl.bin at h
 split at h
 ·injection h with h1 h2; subst h1; subst h2; exact ⟨H,rfl⟩
 ·split at h
  ·split at h
   ·rename_i hn
    injection h with h1 h2; subst h1; subst h2
    refine ⟨H,?_⟩
    rw [intSem]
    have := neverN_ok H 20 ((Bool.and_eq_true _ _).mp hn).2
    simp only [Ref.val] at this ⊢
    rw [this]; rfl
   ·exact push_ok h H
  ·split at h
   ·rename_i hn
    injection h with h1 h2; subst h1; subst h2
    refine ⟨H,?_⟩
    rw [intSem]
    have := neverN_ok H 20 ((Bool.and_eq_true _ _).mp hn).2
    simp only [Ref.val] at this ⊢
    rw [bne,this]; rfl
   ·exact push_ok h H
  ·exact push_ok h H
 ·exact push_ok h H
theorem not_ok {x : Ref} (h : g.not x = (r,g')) (H : Good I X E g') : Good I X E g ∧ truth (r.val E) = !truth (x.val E) := by
 unfold Gl.not at h
 split at h
 ·injection h with h1 h2; subst h1; subst h2; exact ⟨H,truth_ofB _⟩
 ·obtain ⟨h1,h2⟩ := push_ok h H
  exact ⟨h1,by rw [h2]; exact truth_ofB _⟩
theorem and_ok {x y : Ref} (h : g.and x y = (r,g')) (H : Good I X E g') : Good I X E g ∧ truth (r.val E) = (truth (x.val E) && truth (y.val E)) := by
 unfold Gl.and at h
 split at h
 ·rename_i a y
  split at h <;> (injection h with h1 h2; subst h1; subst h2; rename_i ht; refine ⟨H,?_⟩)
  ·simp only [Ref.val,ht,Bool.true_and]
  ·simp only [Ref.val,Bool.not_eq_true] at ht ⊢; rw [ht]; rfl
 ·split at h <;> (injection h with h1 h2; subst h1; subst h2; rename_i ht; refine ⟨H,?_⟩)
  ·simp only [Ref.val,ht,Bool.and_true]
  ·simp only [Ref.val,Bool.not_eq_true] at ht ⊢; rw [ht,Bool.and_false]; rfl
 ·split at h
  ·rename_i he; subst he
   injection h with h1 h2; subst h1; subst h2
   exact ⟨H,by rw [Bool.and_self]⟩
  ·obtain ⟨h1,h2⟩ := push_ok h H
   exact ⟨h1,by rw [h2]; exact truth_ofB _⟩
theorem or_ok {x y : Ref} (h : g.or x y = (r,g')) (H : Good I X E g') : Good I X E g ∧ truth (r.val E) = (truth (x.val E) || truth (y.val E)) := by
 unfold Gl.or at h
 split at h
 ·split at h <;> (injection h with h1 h2; subst h1; subst h2; rename_i ht; refine ⟨H,?_⟩)
  ·simp only [Ref.val,ht,Bool.true_or]; rfl
  ·simp only [Ref.val,Bool.not_eq_true] at ht ⊢; rw [ht,Bool.false_or]
 ·split at h <;> (injection h with h1 h2; subst h1; subst h2; rename_i ht; refine ⟨H,?_⟩)
  ·simp only [Ref.val,ht,Bool.or_true]; rfl
  ·simp only [Ref.val,Bool.not_eq_true] at ht ⊢; rw [ht,Bool.or_false]
 ·split at h
  ·rename_i he; subst he
   injection h with h1 h2; subst h1; subst h2
   exact ⟨H,by rw [Bool.or_self]⟩
  ·obtain ⟨h1,h2⟩ := push_ok h H
   exact ⟨h1,by rw [h2]; exact truth_ofB _⟩
theorem eqb_ok {x y : Ref} (h : g.eqb x y = (r,g')) (H : Good I X E g') : Good I X E g ∧ truth (r.val E) = (truth (x.val E) == truth (y.val E)) := by
 unfold Gl.eqb at h
 split at h
 ·injection h with h1 h2; subst h1; subst h2; exact ⟨H,truth_ofB _⟩
 ·obtain ⟨h1,h2⟩ := push_ok h H
  exact ⟨h1,by rw [h2]; exact truth_ofB _⟩
theorem ite_ok {c x y : Ref} (h : g.ite c x y = (r,g')) (H : Good I X E g') : Good I X E g ∧ r.val E = if truth (c.val E) then x.val E else y.val E := by
 unfold Gl.ite at h
 split at h
 ·rename_i he; subst he
  injection h with h1 h2; subst h1; subst h2; exact ⟨H,by simp⟩
 ·split at h
  ·injection h with h1 h2; subst h1; subst h2; exact ⟨H,apply_ite (Ref.val E) _ _ _⟩
  ·exact push_ok h H
theorem must_ok {pc c : Ref} (H : Good I X E (g.must pc c)) : Good I X E g ∧ (truth (pc.val E) = true → truth (c.val E) = true) := by
 have key : ∀ {c : Ref},Good I X E { g with obl := (pc,c) :: g.obl } → Good I X E g ∧ (truth (pc.val E) = true → truth (c.val E) = true) := fun H =>
  ⟨⟨H.1,fun p hp=>H.2 p (List.mem_cons_of_mem _ hp)⟩,H.2 (pc,_) (by simp)⟩
 unfold Gl.must at H
 split at H
 ·split at H
  ·rename_i ht; exact ⟨H,fun _=>ht⟩
  ·exact key H
 ·exact key H
variable {ρ : Map}
theorem joinL_ok {c : Ref} {a b l : Leaf} (h : joinL c a b g = (l,g')) (H : Good I X E g') : Good I X E g ∧ ∀ ρ v,(truth (c.val E) = true → a.sat ρ E v) → (truth (c.val E) = false → b.sat ρ E v) → l.sat ρ E v := by
 unfold joinL at h
 split at h
 ·rename_i he; replace he := Leaf.same_ok he; subst he
  injection h with h1 h2; subst h1; subst h2
  refine ⟨H,fun ρ v h1 h2=>?_⟩
  cases hc : truth (c.val E)
  ·exact h2 hc
  ·exact h1 hc
 ·split at h
  ·split at h
   ·rename_i k x k' y _ hk
    subst hk
    rcases hi : g.ite c x y with ⟨q,g2⟩
    rw [hi] at h
    injection h with h1 h2; subst h1; subst h2
    obtain ⟨h3,h4⟩ := ite_ok hi H
    refine ⟨h3,fun ρ v h1 h2=>?_⟩
    simp only [Leaf.sat] at h1 h2 ⊢
    rw [h4]
    cases hc : truth (c.val E)
    ·simpa [hc] using h2 hc
    ·simpa [hc] using h1 hc
   ·injection h with h1 h2; subst h1; subst h2
    exact ⟨H,fun ρ v h1 h2=>by simp only [Leaf.sat] at h1 h2 ⊢; exact ⟨h1,h2⟩⟩
  ·rename_i x y _
   rcases hi : g.ite c x y with ⟨q,g2⟩
   rw [hi] at h
   injection h with h1 h2; subst h1; subst h2
   obtain ⟨h3,h4⟩ := ite_ok hi H
   refine ⟨h3,fun ρ v h1 h2=>?_⟩
   simp only [Leaf.sat] at h1 h2 ⊢
   rw [h4]
   cases hc : truth (c.val E)
   ·simpa [hc] using h2 hc
   ·simpa [hc] using h1 hc
  ·rename_i d x y _
   split at h
   ·rename_i hy
    replace hy := Leaf.same_ok hy
    subst hy
    rcases hi : g.and c d with ⟨q,g2⟩
    rw [hi] at h
    injection h with h1 h2; subst h1; subst h2
    obtain ⟨h3,h4⟩ := and_ok hi H
    refine ⟨h3,fun ρ v h1 h2=>?_⟩
    simp only [Leaf.sat] at h1 ⊢
    rw [h4]
    cases hc : truth (c.val E)
    ·exact ⟨fun h=>by simp at h,fun _=>h2 hc⟩
    ·rw [Bool.true_and]; exact h1 hc
   ·injection h with h1 h2; subst h1; subst h2
    exact ⟨H,fun ρ v h1 h2=>⟨h1,h2⟩⟩
  ·injection h with h1 h2; subst h1; subst h2
   exact ⟨H,fun ρ v h1 h2=>by simp only [Leaf.sat]; exact ⟨h1,h2⟩⟩
theorem joinLs_len {c : Ref} : ∀ {xs ys : List Leaf} {g : Gl},xs.length = ys.length → (joinLs c xs ys g).1.length = xs.length
 | [],[],_,_=>rfl
 | a :: xs,b :: ys,g,h=>by
  simp only [joinLs,List.length_cons]
  rw [joinLs_len (by simpa using h)]
theorem joinLs_ok {c : Ref} : ∀ {xs ys ls : List Leaf} {g g' : Gl},xs.length = ys.length → joinLs c xs ys g = (ls,g') → Good I X E g' →
  Good I X E g ∧ ∀ ρ vs,(truth (c.val E) = true → sats ρ E xs vs) → (truth (c.val E) = false → sats ρ E ys vs) → sats ρ E ls vs
 | [],[],ls,g,g',_,h,H=>by
  simp only [joinLs] at h
  injection h with h1 h2; subst h1; subst h2
  refine ⟨H,fun ρ vs h1 h2=>?_⟩
  cases hc : truth (c.val E)
  ·exact h2 hc
  ·exact h1 hc
 | a :: xs,b :: ys,ls,g,g',hl,h,H=>by
  simp only [joinLs] at h
  rcases h1 : joinL c a b g with ⟨x,g1⟩
  rcases h2 : joinLs c xs ys g1 with ⟨zs,g2⟩
  rw [h1] at h
  simp only [h2] at h
  injection h with e1 e2; subst e1; subst e2
  obtain ⟨H1,k1⟩ := joinLs_ok (by simpa using hl) h2 H
  obtain ⟨H2,k2⟩ := joinL_ok h1 H1
  refine ⟨H2,fun ρ vs p1 p2=>?_⟩
  cases vs with
  | nil=>cases hc : truth (c.val E); exact (p2 hc).elim; exact (p1 hc).elim
  | cons v vs=>exact ⟨k2 ρ v (fun hc=>(p1 hc).1) (fun hc=>(p2 hc).1),k1 ρ vs (fun hc=>(p1 hc).2) (fun hc=>(p2 hc).2)⟩
theorem joinA_ok {c : Ref} {a b : SA} {z : Option SA} (h : joinA c a b g = (z,g')) (H : Good I X E g') : Good I X E g ∧ ∀ y,z = some y → ∀ ρ v,(truth (c.val E) = true → a.sat ρ E v) → (truth (c.val E) = false → b.sat ρ E v) → y.sat ρ E v := by
 unfold joinA at h
 split at h
 ·rename_i he; replace he := SA.same_ok he; subst he
  injection h with h1 h2; subst h1; subst h2
  refine ⟨H,fun y hy ρ v h1 h2=>?_⟩
  obtain rfl : a = y := by injection hy
  cases hc : truth (c.val E)
  ·exact h2 hc
  ·exact h1 hc
 ·split at h
  ·rename_i x y _
   rcases h1 : joinL c x y g with ⟨l,g1⟩
   rw [h1] at h
   injection h with e1 e2; subst e1; subst e2
   obtain ⟨H1,k1⟩ := joinL_ok h1 H
   refine ⟨H1,fun y hy ρ v p1 p2=>?_⟩
   obtain rfl : SA.one l = y := by injection hy
   exact k1 ρ v p1 p2
  ·rename_i xs ys _
   split at h
   ·rename_i hl
    rcases h1 : joinLs c xs ys g with ⟨ls,g1⟩
    rw [h1] at h
    injection h with e1 e2; subst e1; subst e2
    obtain ⟨H1,k1⟩ := joinLs_ok hl h1 H
    refine ⟨H1,fun y hy ρ v p1 p2=>?_⟩
    obtain rfl : SA.agg ls = y := by injection hy
    have hz : ls.length = xs.length := by
     have := joinLs_len (c := c) (g := g) hl
     rw [h1] at this; exact this
    have hv : ∃ cs : List Value,v = .agg cs.toArray ∧ cs.length = xs.length := by
     cases hc : truth (c.val E)
     ·obtain ⟨cs,e,e',_⟩ := p2 hc; exact ⟨cs,e,by omega⟩
     ·obtain ⟨cs,e,e',_⟩ := p1 hc; exact ⟨cs,e,e'⟩
    obtain ⟨cs,rfl,hcl⟩ := hv
    have hin : ∀ {ds : List Value},Value.agg cs.toArray = Value.agg ds.toArray → cs = ds := fun e=>by injection e with e; simpa using e
    exact ⟨cs,rfl,by omega,k1 ρ cs (fun hc=>by obtain ⟨ds,e,_,hd⟩ := p1 hc; rw [hin e]; exact hd) (fun hc=>by obtain ⟨ds,e,_,hd⟩ := p2 hc; rw [hin e]; exact hd)⟩
   ·injection h with e1 e2; subst e1; subst e2
    exact ⟨H,fun y hy=>by cases hy⟩
  ·injection h with e1 e2; subst e1; subst e2
   exact ⟨H,fun y hy=>by cases hy⟩
theorem joinAs_ok {c : Ref} : ∀ {xs ys : List SA} {z : Option (List SA)} {g g' : Gl},joinAs c xs ys g = (z,g') → Good I X E g' →
  Good I X E g ∧ ∀ ls,z = some ls → ∀ ρ vs,(truth (c.val E) = true → satA ρ E xs vs) → (truth (c.val E) = false → satA ρ E ys vs) → satA ρ E ls vs
 | [],[],z,g,g',h,H=>by
  simp only [joinAs] at h
  injection h with h1 h2; subst h1; subst h2
  refine ⟨H,fun ls hl ρ vs h1 h2=>?_⟩
  obtain rfl : [] = ls := by injection hl
  cases hc : truth (c.val E)
  ·exact h2 hc
  ·exact h1 hc
 | a :: xs,b :: ys,z,g,g',h,H=>by
  simp only [joinAs] at h
  rcases h1 : joinA c a b g with ⟨x,g1⟩
  rw [h1] at h
  cases x with
  | none =>
   injection h with e1 e2; subst e1; subst e2
   exact ⟨(joinA_ok h1 H).1,fun ls hl=>by cases hl⟩
  | some x =>
   simp only at h
   rcases h2 : joinAs c xs ys g1 with ⟨zs,g2⟩
   rw [h2] at h
   cases zs with
   | none =>
    injection h with e1 e2; subst e1; subst e2
    obtain ⟨H1,_⟩ := joinAs_ok h2 H
    exact ⟨(joinA_ok h1 H1).1,fun ls hl=>by cases hl⟩
   | some zs =>
    injection h with e1 e2; subst e1; subst e2
    obtain ⟨H1,k1⟩ := joinAs_ok h2 H
    obtain ⟨H2,k2⟩ := joinA_ok h1 H1
    refine ⟨H2,fun ls hl ρ vs p1 p2=>?_⟩
    obtain rfl : x :: zs = ls := by injection hl
    cases vs with
    | nil=>cases hc : truth (c.val E); exact (p2 hc).elim; exact (p1 hc).elim
    | cons v vs=>exact ⟨k2 x rfl ρ v (fun hc=>(p1 hc).1) (fun hc=>(p2 hc).1),k1 zs rfl ρ vs (fun hc=>(p1 hc).2) (fun hc=>(p2 hc).2)⟩
 | [],_ :: _,z,g,g',h,H=>by
  simp only [joinAs] at h
  injection h with h1 h2; subst h1; subst h2
  exact ⟨H,fun ls hl=>by cases hl⟩
 | _ :: _,[],z,g,g',h,H=>by
  simp only [joinAs] at h
  injection h with h1 h2; subst h1; subst h2
  exact ⟨H,fun ls hl=>by cases hl⟩
theorem joinV_ok {c : Ref} {a b z : SV} (h : joinV c a b g = (z,g')) (H : Good I X E g') : Good I X E g ∧ ∀ ρ v,(truth (c.val E) = true → a.sat ρ E v) → (truth (c.val E) = false → b.sat ρ E v) → z.sat ρ E v := by
 unfold joinV at h
 split at h
 ·rename_i he; replace he := SV.same_ok he; subst he
  injection h with h1 h2; subst h1; subst h2
  refine ⟨H,fun ρ v h1 h2=>?_⟩
  cases hc : truth (c.val E)
  ·exact h2 hc
  ·exact h1 hc
 ·split at h
  ·rename_i x y _
   split at h
   ·rename_i z g1 h1
    injection h with e1 e2; subst e1; subst e2
    obtain ⟨H1,k1⟩ := joinA_ok h1 H
    exact ⟨H1,fun ρ v p1 p2=>k1 z rfl ρ v p1 p2⟩
   ·rename_i g1 h1
    injection h with e1 e2; subst e1; subst e2
    exact ⟨(joinA_ok h1 H).1,fun _ _ _ _=>trivial⟩
  ·rename_i x y _
   split at h
   ·rename_i zs g1 h1
    injection h with e1 e2; subst e1; subst e2
    obtain ⟨H1,k1⟩ := joinAs_ok h1 H
    refine ⟨H1,fun ρ v p1 p2=>?_⟩
    have hv : ∃ cs : List Value,v = .tuple cs.toArray := by
     cases hc : truth (c.val E)
     ·obtain ⟨cs,e,_⟩ := p2 hc; exact ⟨cs,e⟩
     ·obtain ⟨cs,e,_⟩ := p1 hc; exact ⟨cs,e⟩
    obtain ⟨cs,rfl⟩ := hv
    have hin : ∀ {ds : List Value},Value.tuple cs.toArray = Value.tuple ds.toArray → cs = ds := fun e=>by injection e with e; simpa using e
    exact ⟨cs,rfl,k1 zs rfl ρ cs (fun hc=>by obtain ⟨ds,e,hd⟩ := p1 hc; rw [hin e]; exact hd) (fun hc=>by obtain ⟨ds,e,hd⟩ := p2 hc; rw [hin e]; exact hd)⟩
   ·rename_i g1 h1
    injection h with e1 e2; subst e1; subst e2
    exact ⟨(joinAs_ok h1 H).1,fun _ _ _ _=>trivial⟩
  ·injection h with e1 e2; subst e1; subst e2
   exact ⟨H,fun _ _ _ _=>trivial⟩
theorem joinVs_ok {c : Ref} : ∀ {xs ys zs : List SV} {g g' : Gl},joinVs c xs ys g = (zs,g') → Good I X E g' →
  Good I X E g ∧ zs.length = min xs.length ys.length ∧ ∀ (i : Nat) z,zs[i]? = some z → ∃ a b,xs[i]? = some a ∧ ys[i]? = some b ∧ ∀ ρ v,(truth (c.val E) = true → a.sat ρ E v) → (truth (c.val E) = false → b.sat ρ E v) → z.sat ρ E v
 | a :: xs,b :: ys,zs,g,g',h,H=>by
  simp only [joinVs] at h
  rcases h1 : joinV c a b g with ⟨x,g1⟩
  rcases h2 : joinVs c xs ys g1 with ⟨ws,g2⟩
  rw [h1] at h
  simp only [h2] at h
  injection h with e1 e2; subst e1; subst e2
  obtain ⟨H1,l1,k1⟩ := joinVs_ok h2 H
  obtain ⟨H2,k2⟩ := joinV_ok h1 H1
  refine ⟨H2,by simp only [List.length_cons]; omega,fun i z hz=>?_⟩
  cases i with
  | zero =>
   obtain rfl : x = z := by simpa using hz
   exact ⟨a,b,rfl,rfl,k2⟩
  | succ i=>exact k1 i z (by simpa using hz)
 | [],ys,zs,g,g',h,H=>by
  simp only [joinVs] at h
  injection h with h1 h2; subst h1; subst h2
  exact ⟨H,by simp,fun i z hz=>by simp at hz⟩
 | _ :: _,[],zs,g,g',h,H=>by
  simp only [joinVs] at h
  injection h with h1 h2; subst h1; subst h2
  exact ⟨H,by simp,fun i z hz=>by simp at hz⟩
theorem conjK_ok : ∀ {l : List (Ref × Bool)} {q : Ref} {g g' : Gl},conjK l g = (q,g') → Good I X E g' → Good I X E g ∧ truth (q.val E) = allC E l
 | [],q,g,g',h,H=>by
  simp only [conjK] at h
  injection h with h1 h2; subst h1; subst h2
  exact ⟨H,rfl⟩
 | (r,true) :: l,q,g,g',h,H=>by
  simp only [conjK] at h
  rcases h1 : conjK l g with ⟨q1,g1⟩
  simp only [h1] at h
  obtain ⟨H1,k1⟩ := and_ok h H
  obtain ⟨H2,k2⟩ := conjK_ok h1 H1
  refine ⟨H2,?_⟩
  rw [k1,k2]
  simp only [allC,List.all_cons,beq_true]
 | (r,false) :: l,q,g,g',h,H=>by
  simp only [conjK] at h
  rcases h1 : conjK l g with ⟨q1,g1⟩
  simp only [h1] at h
  rcases h2 : g1.not r with ⟨s,g2⟩
  simp only [h2] at h
  obtain ⟨H1,k1⟩ := and_ok h H
  obtain ⟨H3,k3⟩ := not_ok h2 H1
  obtain ⟨H2,k2⟩ := conjK_ok h1 H3
  refine ⟨H2,?_⟩
  rw [k1,k2,k3]
  simp only [allC,List.all_cons,beq_false]
theorem mixC_ok {c : Ref} {a b q : List (Ref × Bool)} (h : mixC c a b g = (q,g')) (H : Good I X E g') : Good I X E g ∧ (truth (c.val E) = true → allC E q = true → allC E a = true) ∧ (truth (c.val E) = false → allC E q = true → allC E b = true) := by
 unfold mixC at h
 split at h
 ·rename_i hs
  injection h with h1 h2; subst h1; subst h2
  rw [sameCs_ok hs]
  exact ⟨H,fun _ h=>h,fun _ h=>h⟩
 ·rcases h1 : conjK a g with ⟨x,g1⟩
  simp only [h1] at h
  rcases h2 : conjK b g1 with ⟨y,g2⟩
  simp only [h2] at h
  rcases h3 : g2.ite c x y with ⟨r,g3⟩
  simp only [h3] at h
  injection h with e1 e2; subst e1; subst e2
  obtain ⟨H3,k3⟩ := ite_ok h3 H
  obtain ⟨H2,k2⟩ := conjK_ok h2 H3
  obtain ⟨H1,k1⟩ := conjK_ok h1 H2
  refine ⟨H1,fun hc hq=>?_,fun hc hq=>?_⟩
  ·simp only [allC,List.all_cons,List.all_nil,Bool.and_true,beq_true] at hq
   rw [k3,hc,if_pos rfl,k1] at hq
   exact hq
  ·simp only [allC,List.all_cons,List.all_nil,Bool.and_true,beq_true] at hq
   rw [k3,hc,if_neg (by decide),k2] at hq
   exact hq
def JoinOf (E : Nat → Int) (c : Ref) (m n : List SB) (z : SB) : Prop :=
 (∃ a ∈ m,∃ b ∈ n,a.id = z.id ∧ b.id = z.id ∧ (truth (c.val E) = true → allC E z.cs = true → allC E a.cs = true) ∧ (truth (c.val E) = false → allC E z.cs = true → allC E b.cs = true) ∧ a.obj = z.obj ∧ b.obj = z.obj ∧
  ∀ ρ vs,(truth (c.val E) = true → sats ρ E a.cells vs) → (truth (c.val E) = false → sats ρ E b.cells vs) → sats ρ E z.cells vs) ∨
 (∃ a ∈ m,z = a.under (c,true)) ∨ ∃ b ∈ n,z = b.under (c,false)
theorem JoinOf.up {c : Ref} {m n m' n' : List SB} {z : SB} (h : JoinOf E c m n z) (hm : ∀ a ∈ m,a ∈ m') (hn : ∀ b ∈ n,b ∈ n') : JoinOf E c m' n' z := by
 rcases h with ⟨a,ha,b,hb,r⟩ | ⟨a,ha,r⟩ | ⟨b,hb,r⟩
 ·exact .inl ⟨a,hm a ha,b,hn b hb,r⟩
 ·exact .inr (.inl ⟨a,hm a ha,r⟩)
 ·exact .inr (.inr ⟨b,hn b hb,r⟩)
theorem joinM_ok {c : Ref} : ∀ {f : Nat} {m n zs : List SB} {g g' : Gl},joinM c f m n g = (zs,g') → Good I X E g' → Good I X E g ∧ ∀ z ∈ zs,JoinOf E c m n z
 | 0,m,n,zs,g,g',h,H=>by
  simp only [joinM] at h
  injection h with h1 h2; subst h1; subst h2
  exact ⟨H,fun z hz=>by cases hz⟩
 | f + 1,m,n,zs,g,g',h,H=>by
  simp only [joinM] at h
  split at h
  ·injection h with h1 h2; subst h1; subst h2
   refine ⟨H,fun z hz=>?_⟩
   obtain ⟨b,hb,rfl⟩ := List.mem_map.1 hz
   exact .inr (.inr ⟨b,hb,rfl⟩)
  ·rename_i a m1
   split at h
   ·injection h with h1 h2; subst h1; subst h2
    refine ⟨H,fun z hz=>?_⟩
    obtain ⟨b,hb,rfl⟩ := List.mem_map.1 hz
    exact .inr (.inl ⟨b,hb,rfl⟩)
   ·rename_i b n1
    have ha : ∀ x ∈ m1,x ∈ a :: m1 := fun x hx=>List.mem_cons_of_mem _ hx
    have hb : ∀ x ∈ n1,x ∈ b :: n1 := fun x hx=>List.mem_cons_of_mem _ hx
    split at h
    ·rename_i hid
     have hid := Nat.eq_of_beq_eq_true hid
     split at h
     ·rename_i hc
      rcases h0 : mixC c a.cs b.cs g with ⟨q,g0⟩
      simp only [h0] at h
      rcases h1 : joinLs c a.cells b.cells g0 with ⟨ls,g1⟩
      simp only [h1] at h
      rcases h2 : joinM c f m1 n1 g1 with ⟨ws,g2⟩
      simp only [h2] at h
      injection h with e1 e2; subst e1; subst e2
      obtain ⟨H1,k1⟩ := joinM_ok h2 H
      obtain ⟨H2,k2⟩ := joinLs_ok hc.2 h1 H1
      obtain ⟨H3,k3,k4⟩ := mixC_ok h0 H2
      refine ⟨H3,fun z hz=>?_⟩
      rcases List.mem_cons.1 hz with rfl | hz
      ·exact .inl ⟨a,by simp,b,by simp,hid,rfl,k3,k4,hc.1,rfl,k2⟩
      ·exact (k1 z hz).up ha hb
     ·obtain ⟨H1,k1⟩ := joinM_ok h H
      exact ⟨H1,fun z hz=>(k1 z hz).up ha hb⟩
    ·split at h
     ·rcases h2 : joinM c f m1 (b :: n1) g with ⟨ws,g2⟩
      simp only [h2] at h
      injection h with e1 e2; subst e1; subst e2
      obtain ⟨H1,k1⟩ := joinM_ok h2 H
      refine ⟨H1,fun z hz=>?_⟩
      rcases List.mem_cons.1 hz with rfl | hz
      ·exact .inr (.inl ⟨a,by simp,rfl⟩)
      ·exact (k1 z hz).up ha (fun _ h=>h)
     ·rcases h2 : joinM c f (a :: m1) n1 g with ⟨ws,g2⟩
      simp only [h2] at h
      injection h with e1 e2; subst e1; subst e2
      obtain ⟨H1,k1⟩ := joinM_ok h2 H
      refine ⟨H1,fun z hz=>?_⟩
      rcases List.mem_cons.1 hz with rfl | hz
      ·exact .inr (.inr ⟨b,by simp,rfl⟩)
      ·exact (k1 z hz).up (fun _ h=>h) hb
theorem joinM_ids {c : Ref} : ∀ {f : Nat} {m n : List SB} {g : Gl},∀ z ∈ (joinM c f m n g).1,(∃ a ∈ m,a.id = z.id) ∨ ∃ b ∈ n,b.id = z.id
 | 0,m,n,g,z,hz=>by simp [joinM] at hz
 | f + 1,[],n,g,z,hz=>by
  simp only [joinM] at hz
  obtain ⟨b,hb,rfl⟩ := List.mem_map.1 hz
  exact .inr ⟨b,hb,rfl⟩
 | f + 1,a :: m1,[],g,z,hz=>by
  simp only [joinM] at hz
  obtain ⟨b,hb,rfl⟩ := List.mem_map.1 hz
  exact .inl ⟨b,hb,rfl⟩
 | f + 1,a :: m1,b :: n1,g,z,hz=>by
  have up : ∀ {m n : List SB},(∀ x ∈ m,x ∈ a :: m1) → (∀ x ∈ n,x ∈ b :: n1) → ((∃ a ∈ m,a.id = z.id) ∨ ∃ b ∈ n,b.id = z.id) → (∃ x ∈ a :: m1,x.id = z.id) ∨ ∃ x ∈ b :: n1,x.id = z.id := fun h1 h2 h=>by
   rcases h with ⟨x,hx,e⟩ | ⟨x,hx,e⟩
   ·exact .inl ⟨x,h1 x hx,e⟩
   ·exact .inr ⟨x,h2 x hx,e⟩
  have ha : ∀ x ∈ m1,x ∈ a :: m1 := fun x hx=>List.mem_cons_of_mem _ hx
  have hb : ∀ x ∈ n1,x ∈ b :: n1 := fun x hx=>List.mem_cons_of_mem _ hx
  simp only [joinM] at hz
  split at hz
  ·split at hz
   ·rcases List.mem_cons.1 hz with rfl | hz
    ·exact .inr ⟨b,by simp,rfl⟩
    ·exact up ha hb (joinM_ids z hz)
   ·exact up ha hb (joinM_ids z hz)
  ·split at hz
   ·rcases List.mem_cons.1 hz with rfl | hz
    ·exact .inl ⟨a,by simp,rfl⟩
    ·exact up ha (fun _ h=>h) (joinM_ids z hz)
   ·rcases List.mem_cons.1 hz with rfl | hz
    ·exact .inr ⟨b,by simp,rfl⟩
    ·exact up (fun _ h=>h) hb (joinM_ids z hz)
theorem joinM_desc {c : Ref} : ∀ {f : Nat} {m n : List SB} {g : Gl},m.Pairwise (fun a b=>b.id < a.id) → n.Pairwise (fun a b=>b.id < a.id) → (joinM c f m n g).1.Pairwise fun a b=>b.id < a.id
 | 0,m,n,g,_,_=>by simp [joinM]
 | f + 1,[],n,g,_,hn=>by
  simp only [joinM]
  exact List.pairwise_map.2 hn
 | f + 1,a :: m1,[],g,hm,_=>by
  simp only [joinM]
  exact List.pairwise_map.2 hm
 | f + 1,a :: m1,b :: n1,g,hm,hn=>by
  obtain ⟨hm1,hm2⟩ := List.pairwise_cons.1 hm
  obtain ⟨hn1,hn2⟩ := List.pairwise_cons.1 hn
  simp only [joinM]
  split
  ·rename_i hid
   have hid := Nat.eq_of_beq_eq_true hid
   split
   ·refine List.pairwise_cons.2 ⟨fun z hz=>?_,joinM_desc hm2 hn2⟩
    simp only
    rcases joinM_ids z hz with ⟨x,hx,e⟩ | ⟨x,hx,e⟩
    ·have := hm1 x hx; omega
    ·have := hn1 x hx; omega
   ·exact joinM_desc hm2 hn2
  ·rename_i hid
   have hid : a.id ≠ b.id := fun e=>by rw [e,Nat.beq_refl] at hid; cases hid
   split
   ·rename_i hlt
    rw [Nat.blt_eq] at hlt
    refine List.pairwise_cons.2 ⟨fun z hz=>?_,joinM_desc hm2 hn⟩
    simp only [SB.under]
    rcases joinM_ids z hz with ⟨x,hx,e⟩ | ⟨x,hx,e⟩
    ·have := hm1 x hx; omega
    ·rcases List.mem_cons.1 hx with rfl | hx
     ·omega
     ·have := hn1 x hx; omega
   ·rename_i hlt
    have hlt : ¬ b.id < a.id := fun h=>by
     have h2 : Nat.blt b.id a.id = true := by rw [Nat.blt_eq]; exact h
     rw [h2] at hlt; cases hlt
    refine List.pairwise_cons.2 ⟨fun z hz=>?_,joinM_desc hm hn2⟩
    simp only [SB.under]
    rcases joinM_ids z hz with ⟨x,hx,e⟩ | ⟨x,hx,e⟩
    ·rcases List.mem_cons.1 hx with rfl | hx
     ·omega
     ·have := hm1 x hx; omega
    ·have := hn1 x hx; omega
variable {O : Objs}
theorem Blk.congr {b z : SB} {w : World} (h : Blk O ρ E b w) (e1 : b.id = z.id) (e3 : b.obj = z.obj) (hs : ∀ vs,sats ρ E b.cells vs → sats ρ E z.cells vs) : Blk O ρ E z w := by
 obtain ⟨L,vs,hl,hv,hr⟩ := h
 exact ⟨L,vs,by rw [← e1]; exact hl,hs vs hv,by rw [← e3]; exact hr⟩
theorem joinM_M {c : Ref} {f : Nat} {m n zs : List SB} (h : joinM c f m n g = (zs,g')) (H : Good I X E g') {w : World}
  (p1 : truth (c.val E) = true → M O ρ E m w) (p2 : truth (c.val E) = false → M O ρ E n w) : M O ρ E zs w := by
 obtain ⟨_,k⟩ := joinM_ok h H
 have go : ∀ l : List SB,M O ρ E l w → (∀ z ∈ zs,allC E z.cs = true → ∃ a ∈ l,allC E a.cs = true ∧ a.id = z.id ∧ a.obj = z.obj ∧ ∀ vs,sats ρ E a.cells vs → sats ρ E z.cells vs) → M O ρ E zs w := fun l r k=>by
  refine ⟨fun z hz hzc=>?_,fun z hz z' hz' hc hc' hne L L' hL hL'=>?_,fun z hz hzc L hL=>?_⟩
  ·obtain ⟨a,ha,c1,e2,e6,k2⟩ := k z hz hzc
   exact (r.blk a ha c1).congr e2 e6 k2
  ·obtain ⟨b,hb,c1,e2,_⟩ := k z hz hc
   obtain ⟨b',hb',c1',e2',_⟩ := k z' hz' hc'
   exact r.disj b hb b' hb' c1 c1' (by rw [e2,e2']; exact hne) L L' (by rw [e2]; exact hL) (by rw [e2']; exact hL')
  ·obtain ⟨b,hb,c1,e2,_⟩ := k z hz hzc
   exact r.low b hb c1 L (by rw [e2]; exact hL)
 cases hc : truth (c.val E)
 ·refine go n (p2 hc) fun z hz hzc=>?_
  rcases k z hz with ⟨a,ha,b,hb,e1,e2,c1,c2,o1,o2,k2⟩ | ⟨a,ha,rfl⟩ | ⟨b,hb,rfl⟩
  ·exact ⟨b,hb,c2 hc hzc,e2,o2,fun vs hv=>k2 ρ vs (fun h=>by rw [hc] at h; cases h) (fun _=>hv)⟩
  ·simp only [SB.under,allC,List.all_cons,hc,Bool.and_eq_true] at hzc
   exact absurd hzc.1 (by decide)
  ·simp only [SB.under,allC,List.all_cons,Bool.and_eq_true] at hzc
   exact ⟨b,hb,hzc.2,rfl,rfl,fun _ h=>h⟩
 ·refine go m (p1 hc) fun z hz hzc=>?_
  rcases k z hz with ⟨a,ha,b,hb,e1,e2,c1,c2,o1,o2,k2⟩ | ⟨a,ha,rfl⟩ | ⟨b,hb,rfl⟩
  ·exact ⟨a,ha,c1 hc hzc,e1,o1,fun vs hv=>k2 ρ vs (fun _=>hv) (fun h=>by rw [hc] at h; cases h)⟩
  ·simp only [SB.under,allC,List.all_cons,Bool.and_eq_true] at hzc
   exact ⟨a,ha,hzc.2,rfl,rfl,fun _ h=>h⟩
  ·simp only [SB.under,allC,List.all_cons,hc,Bool.and_eq_true] at hzc
   exact absurd hzc.1 (by decide)
theorem M.subl {l l' : List SB} {w : World} (h : M O ρ E l w) (hs : ∀ {b},b ∈ l' → b ∈ l) : M O ρ E l' w :=
 ⟨fun b hb=>h.blk b (hs hb),fun b hb b' hb'=>h.disj b (hs hb) b' (hs hb'),fun b hb=>h.low b (hs hb)⟩
theorem joinMem_ok {c : Ref} {m n z : Mem} (h : joinMem c m n g = (z,g')) (H : Good I X E g') :
  Good I X E g ∧ ∀ O ρ w,(truth (c.val E) = true → M O ρ E m.bs w) → (truth (c.val E) = false → M O ρ E n.bs w) → M O ρ E z.bs w := by
 unfold joinMem at h
 rcases h2 : joinM c (m.bs.length + n.bs.length + 1) m.bs n.bs g with ⟨ms,g2⟩
 rw [h2] at h
 injection h with e1 e2; subst e1; subst e2
 exact ⟨(joinM_ok h2 H).1,fun O ρ w p1 p2=>joinM_M h2 H p1 p2⟩
theorem joinLo_ok {c : Ref} {s s' z : Lo} (h : joinLo c s s' g = (z,g')) (H : Good I X E g') :
  Good I X E g ∧ ∀ O ρ a w,(truth (c.val E) = true → R O ρ E s a w) → (truth (c.val E) = false → R O ρ E s' a w) → R O ρ E z a w := by
 unfold joinLo at h
 rcases h1 : joinVs c s.tmps s'.tmps g with ⟨ts,g1⟩
 rcases h2 : joinMem c s.mem s'.mem g1 with ⟨ms,g2⟩
 rw [h1] at h
 simp only [h2] at h
 injection h with e1 e2; subst e1; subst e2
 obtain ⟨H1,km⟩ := joinMem_ok h2 H
 obtain ⟨H2,kl,kt⟩ := joinVs_ok h1 H1
 refine ⟨H2,fun O ρ a w p1 p2=>⟨?_,fun i x hx=>?_,?_,(km O ρ w (fun hc=>(p1 hc).mem) (fun hc=>(p2 hc).mem)).subl (fun hb=>gcMem_sub.1.subset hb),rfl⟩⟩
 ·cases hc : truth (c.val E)
  ·have := (p2 hc).size; simp only [kl]; omega
  ·have := (p1 hc).size; simp only [kl]; omega
 ·obtain ⟨y,y',hy,hy',k⟩ := kt i x hx
  exact k ρ _ (fun hc=>(p1 hc).tmp i y hy) (fun hc=>(p2 hc).tmp i y' hy')
 ·cases hc : truth (c.val E)
  ·exact (p2 hc).defers
  ·exact (p1 hc).defers
theorem tmp_put {ts : List SV} {a : Act} {v : SV} {u : Value} (hz : ts.length ≤ a.tmps.size) (h : ∀ i (x : SV),ts[i]? = some x → x.sat ρ E (a.tmps.getD i undef)) (d : Option Tmp) (hv : v.sat ρ E u) :
  ∀ i (x : SV),(putT ts d v)[i]? = some x → x.sat ρ E ((a.put d u).tmps.getD i undef) := by
 cases d with
 | none=>exact h
 | some d =>
  intro i x hx
  simp only [putT] at hx
  by_cases hd : d = i
  ·subst hd
   have hlt : d < ts.length := by
    have := (List.getElem?_eq_some_iff.1 hx).1
    simpa using this
   rw [List.getElem?_set_self hlt] at hx
   obtain rfl : v = x := by injection hx
   have hlt2 : d < a.tmps.size := Nat.lt_of_lt_of_le hlt hz
   simp only [Act.put]
   simpa [hlt2] using hv
  ·rw [List.getElem?_set_ne hd] at hx
   have := h i x hx
   simp only [Act.put]
   rw [Array.getD_eq_getD_getElem?] at this ⊢
   rw [Array.getElem?_setIfInBounds_ne hd]
   exact this
theorem putT_len (ts : List SV) (d : Option Tmp) (v : SV) : (putT ts d v).length = ts.length := by cases d <;> simp [putT]
theorem put_size (a : Act) (d : Option Tmp) (v : Value) : (a.put d v).tmps.size = a.tmps.size := by cases d <;> simp [Act.put]
theorem put_defers (a : Act) (d : Option Tmp) (v : Value) : (a.put d v).defers = a.defers := by cases d <;> rfl
end
end Go.Proofs.YtbegodiligmphaaGreatDoor.Sy
