/- Part of the proof of BusProof. A symbolic evaluator: a slice or an object that is told by conditions is made one block. No program in sight. A symbolic evaluator: contracts of functions on memory that are written down, and checked by the kernel. No program in sight. Lists of numbers as one number. No program in sight. A symbolic evaluator: what a checked contract says of a call, where no blocks are looked at. No program in sight. A symbolic evaluator: new blocks behind a call that is proved by hand. No program in sight. The evaluator's context over the program: tables of types and functions, the package-level tables. The flash memory's operations, on a memory of two blocks of 8 pages, with power and without a fuse. Plain facts on gate signals, with no program in sight: edges, their order, the state of the switches at a count, the parts of a period, the counts at which a leg is high. Plain facts: the legs of layer 24 and the signals of a period. No program in sight. Common words of the walks: the value of an error, of an edge. Results that lie in memory; loads of whole arrays and structs out of a known block. The walks of layer 24's small checks: within, isPeriod, sorted. The walks of layer 24's small functions: number, wanted, on, ranges; and the reference's. The walks of layer 24's ranges and on, and the reference's. An own row in a later world of which only 'Below' is known; cells of three legs. No program in sight. Plain facts: signals without broken switches. The walk of Break. A symbolic evaluator: blocks seen anew through a pattern; entries that are known numbers. No program in sight. A symbolic evaluator: objects that are made of blocks. No program in sight. A symbolic evaluator: methods of an object that is made of blocks, by cases. No program in sight. A symbolic evaluator: a method of an object made of blocks that gives a copy of four of its numbers. No program in sight. Regions that draw their order: operations that only read (and calls that change nothing) come first, what writes comes last, one behind the other; a plain copy of a slot need not be waited for. -/
import Derived.BigRegion
import Derived.ChangeAlike
import Derived.RegionTactic
import Derived.StillTail
import Derived.StillTailTactics
import Derived.Test.YtbegodiligmphaaGreatDoorRows
import Derived.Test.YtbegodiligmphaaGreatDoorQb00
import Derived.Test.YtbegodiligmphaaGreatDoorQb04
namespace Go.Proofs.YtbegodiligmphaaGreatDoor.Sy
open Go
def mergeAll : List (Nat × Nat) → Mem → Gl → Option (Mem × Gl)
 | [],m,g=>some (m,g)
 | (i,o) :: l,m,g=>match mergeB m i o g with
  | some (m,g)=>mergeAll l m g
  | none=>none
section
variable {O : Objs} {I : Nat → Int} {X : Nat → List Int → Int} {ρ : Map} {E : Nat → Int} {w : World} {g g' : Gl}
theorem mergeAll_ok : ∀ {l : List (Nat × Nat)} {m m' : Mem} {g g' : Gl} {ρ : Map},mergeAll l m g = some (m',g') → St I X E g g' m m' ∧
  (Good I X E g' → M O ρ E m.bs w → WF m → Fresh ρ m.nb m'.nb → ∃ ρ',M O ρ' E m'.bs w ∧ Ext ρ ρ' m m' w w)
 | [],m,m',g,g',ρ,h=>by
  simp only [mergeAll] at h
  injection h with h; injection h with e1 e2; subst e1; subst e2
  exact ⟨St.rfl',fun _ hM _ _=>⟨ρ,hM,Ext.rfl'⟩⟩
 | (i,o) :: l,m,m',g,g',ρ,h=>by
  simp only [mergeAll] at h
  split at h
  ·rename_i m1 g1 h1
   obtain ⟨a1,_⟩ := mergeB_ok (I := I) (X := X) (E := E) (O := O) (ρ := ρ) (w := w) h1
   obtain ⟨c1,_⟩ := mergeAll_ok (ρ := ρ) h
   refine ⟨a1.trans c1,fun H hM hW hF=>?_⟩
   obtain ⟨_,a2⟩ := mergeB_ok (I := I) (X := X) (E := E) (O := O) (ρ := ρ) (w := w) h1
   have hnb : m1.nb = m.nb + 1 := by
    unfold mergeB at h1
    split at h1
    ·split at h1
     ·split at h1
      ·rename_i hm
       split at h1
       ·split at h1
        ·injection h1 with h1; injection h1 with e1 e2
         rw [← e1]
         exact (mergeL_ok (I := I) (X := X) (E := E) (O := O) (ρ := ρ) (w := w) hm).2.1
        ·cases h1
       ·cases h1
      ·cases h1
     ·cases h1
    ·cases h1
   have hn : ρ m.nb = none := hF m.nb (Nat.le_refl _) (by have := c1.nb; omega)
   obtain ⟨ρ1,p1,p2⟩ := a2 (c1.good H) hM hW hn
   obtain ⟨_,c2⟩ := mergeAll_ok (ρ := ρ1) h
   obtain ⟨ρ2,r1,r2⟩ := c2 H p1 (a1.wf hW) (hF.step p2 a1)
   exact ⟨ρ2,r1,p2.trans r2 a1 c1 (hF.sub (Nat.le_refl _) c1.nb)⟩
  ·cases h
def knowC (r : Ref) : List (Ref × Bool) → Option Bool
 | []=>none
 | p :: l=>match r.same p.1 with
  | true=>some p.2
  | false=>knowC r l
def fixL (fx : List (Ref × Bool)) : Leaf → Leaf
 | .mix c a b=>match knowC c fx with
  | some true=>fixL fx a
  | some false=>fixL fx b
  | none=>.mix c (fixL fx a) (fixL fx b)
 | .bool r=>match knowC r fx with
  | some y=>.bool (.c (ofB y))
  | none=>.bool r
 | l=>l
def fixS (fx : List (Ref × Bool)) : SA → SA
 | .one l=>.one (fixL fx l)
 | .agg ls=>.agg (ls.map (fixL fx))
def fixV (fx : List (Ref × Bool)) : SV → SV
 | .a x=>.a (fixS fx x)
 | .tup xs=>.tup (xs.map (fixS fx))
 | v=>v
def fixCs (fx : List (Ref × Bool)) : List (Ref × Bool) → Option (List (Ref × Bool))
 | []=>some []
 | (r,y) :: l=>match fixCs fx l with
  | none=>none
  | some k=>match knowC r fx with
   | some z=>match z == y with
    | true=>some k
    | false=>none
   | none=>some ((r,y) :: k)
def fixB (fx : List (Ref × Bool)) : List SB → List SB
 | []=>[]
 | b :: bs=>match fixCs fx b.cs with
  | some cs=>⟨b.id,cs,b.cells.map (fixL fx),b.obj⟩ :: fixB fx bs
  | none=>fixB fx bs
def fixG : List (Ref × Bool) → Gl → Gl
 | [],g=>g
 | (r,y) :: l,g=>match y with
  | true=>fixG l (g.must (.c 1) r)
  | false=>let (n,g) := g.not r; fixG l (g.must (.c 1) n)
theorem knowC_ok {fx : List (Ref × Bool)} (h : allC E fx = true) {r : Ref} {y : Bool} (hk : knowC r fx = some y) : truth (r.val E) = y := by
 induction fx with
 | nil=>cases hk
 | cons p l ih =>
  simp only [allC,List.all_cons,Bool.and_eq_true,beq_iff_eq] at h
  simp only [knowC] at hk
  split at hk
  ·rename_i hs
   injection hk with hk
   rw [Ref.same_ok hs,h.1,hk]
  ·exact ih h.2 hk
theorem fixL_ok {fx : List (Ref × Bool)} (h : allC E fx = true) : ∀ {l : Leaf} {v : Value},l.sat ρ E v → (fixL fx l).sat ρ E v := by
 intro l
 induction l with
 | mix c a b iha ihb =>
  intro v hv
  simp only [fixL]
  split
  ·rename_i hk; exact iha (hv.1 (knowC_ok h hk))
  ·rename_i hk; exact ihb (hv.2 (knowC_ok h hk))
  ·exact ⟨fun hc=>iha (hv.1 hc),fun hc=>ihb (hv.2 hc)⟩
 | bool r =>
  intro v hv
  simp only [fixL]
  split
  ·rename_i y hk
   have := knowC_ok h hk
   simp only [Leaf.sat] at hv ⊢
   rw [hv,this]
   show _ = Value.bool (truth (ofB y))
   rw [truth_ofB]
  ·exact hv
 | _=>intro v hv; exact hv
theorem fixLs_ok {fx : List (Ref × Bool)} (h : allC E fx = true) : ∀ {ls : List Leaf} {vs : List Value},sats ρ E ls vs → sats ρ E (ls.map (fixL fx)) vs
 | [],_,_=>trivial
 | _l :: _ls,_v :: _vs,hs=>⟨fixL_ok h hs.1,fixLs_ok h hs.2⟩
 | _ :: _,[],hs=>hs.elim
theorem fixS_ok {fx : List (Ref × Bool)} (h : allC E fx = true) : ∀ {x : SA} {v : Value},x.sat ρ E v → (fixS fx x).sat ρ E v
 | .one _,_,hv=>fixL_ok h hv
 | .agg _,_,⟨cs,e,hl,hs⟩=>⟨cs,e,by rw [hl]; simp,fixLs_ok h hs⟩
theorem fixV_ok {fx : List (Ref × Bool)} (h : allC E fx = true) : ∀ {x : SV} {v : Value},x.sat ρ E v → (fixV fx x).sat ρ E v
 | .a _,_,hv=>fixS_ok h hv
 | .tup xs,v,⟨vs,e,hs⟩=>⟨vs,e,by
  clear e
  induction xs generalizing vs with
  | nil=>cases vs with
   | nil=>trivial
   | cons _ _=>exact hs.elim
  | cons x xs ih=>cases vs with
   | nil=>exact hs.elim
   | cons u us=>exact ⟨fixS_ok h hs.1,ih us hs.2⟩⟩
 | .whn _ _,_,hv=>hv
theorem fixCs_ok {fx : List (Ref × Bool)} (h : allC E fx = true) : ∀ {cs ks : List (Ref × Bool)},fixCs fx cs = some ks → allC E ks = true → allC E cs = true
 | [],_,_,_=>rfl
 | (r,y) :: l,ks,hf,hk=>by
  simp only [fixCs] at hf
  split at hf
  ·cases hf
  ·rename_i k hl
   split at hf
   ·rename_i z hz
    split at hf
    ·rename_i hzy
     injection hf with hf; subst hf
     have := knowC_ok h hz
     have e : z = y := by simpa using hzy
     simp only [allC,List.all_cons,Bool.and_eq_true,beq_iff_eq]
     exact ⟨by rw [this,e],fixCs_ok h hl hk⟩
    ·cases hf
   ·injection hf with hf; subst hf
    simp only [allC,List.all_cons,Bool.and_eq_true] at hk ⊢
    exact ⟨hk.1,fixCs_ok h hl hk.2⟩
theorem fixB_mem {fx : List (Ref × Bool)} : ∀ {bs : List SB} {b : SB},b ∈ fixB fx bs → ∃ c ∈ bs,∃ cs,fixCs fx c.cs = some cs ∧ b = ⟨c.id,cs,c.cells.map (fixL fx),c.obj⟩
 | [],_,h=>by cases h
 | c :: bs,b,h=>by
  simp only [fixB] at h
  split at h
  ·rename_i cs hcs
   rcases List.mem_cons.1 h with rfl | h
   ·exact ⟨c,by simp,cs,hcs,rfl⟩
   ·obtain ⟨d,hd,r⟩ := fixB_mem h
    exact ⟨d,List.mem_cons_of_mem _ hd,r⟩
  ·obtain ⟨d,hd,r⟩ := fixB_mem h
   exact ⟨d,List.mem_cons_of_mem _ hd,r⟩
theorem fixB_ids {fx : List (Ref × Bool)} : ∀ {bs : List SB},((fixB fx bs).map (·.id)).Sublist (bs.map (·.id))
 | []=>List.Sublist.refl _
 | c :: bs=>by
  simp only [fixB]
  split
  ·exact (fixB_ids).cons_cons _
  ·exact (fixB_ids).cons _
theorem fixB_ok {fx : List (Ref × Bool)} (h : allC E fx = true) {bs : List SB} (hM : M O ρ E bs w) : M O ρ E (fixB fx bs) w := by
 refine ⟨fun b hb hc=>?_,fun b hb b' hb' hc hc' hne L L' hL hL'=>?_,fun b hb hc L hL=>?_⟩
 ·obtain ⟨c,c1,cs,c2,rfl⟩ := fixB_mem hb
  exact (hM.blk c c1 (fixCs_ok h c2 hc)).congr rfl rfl fun vs hv=>fixLs_ok h hv
 ·obtain ⟨c,c1,cs,c2,rfl⟩ := fixB_mem hb
  obtain ⟨d,d1,ds,d2,rfl⟩ := fixB_mem hb'
  exact hM.disj c c1 d d1 (fixCs_ok h c2 hc) (fixCs_ok h d2 hc') hne L L' hL hL'
 ·obtain ⟨c,c1,cs,c2,rfl⟩ := fixB_mem hb
  exact hM.low c c1 (fixCs_ok h c2 hc) L hL
theorem fixG_ok : ∀ {fx : List (Ref × Bool)} {g : Gl},Good I X E (fixG fx g) → Good I X E g ∧ allC E fx = true
 | [],g,H=>⟨H,rfl⟩
 | (r,true) :: l,g,H=>by
  simp only [fixG] at H
  obtain ⟨H1,k1⟩ := fixG_ok H
  obtain ⟨H2,k2⟩ := must_ok H1
  refine ⟨H2,?_⟩
  simp only [allC,List.all_cons,Bool.and_eq_true,beq_iff_eq]
  exact ⟨k2 rfl,k1⟩
 | (r,false) :: l,g,H=>by
  simp only [fixG] at H
  rcases h1 : g.not r with ⟨n,g1⟩
  simp only [h1] at H
  obtain ⟨H1,k1⟩ := fixG_ok H
  obtain ⟨H2,k2⟩ := must_ok H1
  obtain ⟨H3,k3⟩ := not_ok h1 H2
  refine ⟨H3,?_⟩
  simp only [allC,List.all_cons,Bool.and_eq_true,beq_iff_eq]
  have := k2 rfl
  rw [k3] at this
  exact ⟨by simpa using this,k1⟩
def cellV (v : SV) (i j : Nat) : Option Leaf :=
 match v with
 | .a (.agg ls)=>if i = 0 then ls[j]? else none
 | .a (.one l)=>if i = 0 ∧ j = 0 then some l else none
 | .tup xs=>match xs[i]? with
  | some (.agg ls)=>ls[j]?
  | some (.one l)=>if j = 0 then some l else none
  | none=>none
 | _=>none
def putV (v : SV) (i j : Nat) (l : Leaf) : SV :=
 match v with
 | .a (.agg ls)=>.a (.agg (ls.set j l))
 | .a (.one _)=>.a (.one l)
 | .tup xs=>match xs[i]? with
  | some (.agg ls)=>.tup (xs.set i (.agg (ls.set j l)))
  | some (.one _)=>.tup (xs.set i (.one l))
  | none=>.tup xs
 | v=>v
theorem sats_put {ls : List Leaf} {vs : List Value} {j : Nat} {l l' : Leaf} (h : sats ρ E ls vs) (hl : ls[j]? = some l) (hh : ∀ v,l.sat ρ E v → l'.sat ρ E v) : sats ρ E (ls.set j l') vs := by
 obtain ⟨v,hv1,hv2⟩ := sats_get h hl
 have := sats_set j h (hh v hv2)
 have e2 : vs.set j v = vs := by
  apply List.ext_getElem?
  intro k
  rw [List.getElem?_set]
  split
  ·rename_i hk; subst hk
   split
   ·exact hv1.symm
   ·rename_i hk
    rw [List.getElem?_eq_none (by omega)]
  ·rfl
 rw [e2] at this
 exact this
theorem satA_put : ∀ {xs : List SA} {vs : List Value} {i : Nat} {x x' : SA},satA ρ E xs vs → xs[i]? = some x → (∀ v,x.sat ρ E v → x'.sat ρ E v) → satA ρ E (xs.set i x') vs
 | [],_,_,_,_,_,hx,_=>by simp at hx
 | _ :: _,[],_,_,_,h,_,_=>h.elim
 | y :: xs,v :: vs,0,x,x',h,hx,hh=>by
  simp only [List.getElem?_cons_zero,Option.some.injEq] at hx
  subst hx
  exact ⟨hh v h.1,h.2⟩
 | y :: xs,v :: vs,i + 1,x,x',h,hx,hh=>by
  simp only [List.getElem?_cons_succ] at hx
  exact ⟨h.1,satA_put h.2 hx hh⟩
theorem putV_ok {v : SV} {i j : Nat} {l l' : Leaf} (hc : cellV v i j = some l) (hh : ∀ u,l.sat ρ E u → l'.sat ρ E u) {u : Value} (h : v.sat ρ E u) : (putV v i j l').sat ρ E u := by
 cases v with
 | a x =>
  cases x with
  | one y =>
   simp only [cellV] at hc
   split at hc
   ·injection hc with hc; subst hc
    exact hh u h
   ·cases hc
  | agg ls =>
   simp only [cellV] at hc
   split at hc
   ·obtain ⟨cs,e,hl,hs⟩ := h
    exact ⟨cs,e,by rw [hl]; simp,sats_put hs hc hh⟩
   ·cases hc
 | tup xs =>
  simp only [cellV] at hc
  obtain ⟨vs,e,hs⟩ := h
  simp only [putV]
  split at hc
  ·rename_i ls hx
   refine ⟨vs,e,satA_put hs hx fun v hv=>?_⟩
   obtain ⟨cs,e',hl,hs'⟩ := hv
   exact ⟨cs,e',by rw [hl]; simp,sats_put hs' hc hh⟩
  ·rename_i y hx
   split at hc
   ·injection hc with hc; subst hc
    exact ⟨vs,e,satA_put hs hx fun v hv=>hh v hv⟩
   ·cases hc
  ·cases hc
 | whn cs x=>simp [cellV] at hc
def mergeOut : List (Nat × Nat) → SV → Mem → Gl → Option (SV × Mem × Gl)
 | [],v,m,g=>some (v,m,g)
 | (i,j) :: k,v,m,g=>match cellV v i j with
  | some l=>match mergeL m l g with
   | some (l',m,g)=>mergeOut k (putV v i j l') m g
   | none=>none
  | none=>none
theorem mergeOut_ok : ∀ {k : List (Nat × Nat)} {v v' : SV} {m m' : Mem} {g g' : Gl} {ρ : Map},mergeOut k v m g = some (v',m',g') → St I X E g g' m m' ∧
  (Good I X E g' → M O ρ E m.bs w → WF m → Fresh ρ m.nb m'.nb → ∃ ρ',M O ρ' E m'.bs w ∧ Ext ρ ρ' m m' w w ∧ ∀ u,v.sat ρ E u → v'.sat ρ' E u)
 | [],v,v',m,m',g,g',ρ,h=>by
  simp only [mergeOut] at h
  injection h with h; injection h with e1 e; injection e with e2 e3; subst e1; subst e2; subst e3
  exact ⟨St.rfl',fun _ hM _ _=>⟨ρ,hM,Ext.rfl',fun _ h=>h⟩⟩
 | (i,j) :: k,v,v',m,m',g,g',ρ,h=>by
  simp only [mergeOut] at h
  split at h
  ·rename_i l hl
   split at h
   ·rename_i l1 m1 g1 hm
    obtain ⟨a1,hnb,_,a2⟩ := mergeL_ok (I := I) (X := X) (E := E) (O := O) (ρ := ρ) (w := w) hm
    obtain ⟨c1,_⟩ := mergeOut_ok (ρ := ρ) h
    refine ⟨a1.trans c1,fun H hM hW hF=>?_⟩
    have hn : ρ m.nb = none := hF m.nb (Nat.le_refl _) (by have := c1.nb; omega)
    obtain ⟨q,p1,p2,p3⟩ := a2 (c1.good H) hM hW hn
    obtain ⟨_,c2⟩ := mergeOut_ok (ρ := mgMap ρ m.nb q) h
    obtain ⟨ρ2,r1,r2,r3⟩ := c2 H p1 (a1.wf hW) (hF.step p2 a1)
    exact ⟨ρ2,r1,p2.trans r2 a1 c1 (hF.sub (Nat.le_refl _) c1.nb),fun u hu=>r3 u (putV_ok hl p3 (SV.mono p2.le _ hu))⟩
   ·cases h
  ·cases h
def tidy (fx : List (Ref × Bool)) (mg mo : List (Nat × Nat)) (r : SV × Mem × Gl) : Option (SV × Mem × Gl) :=
 match r with
 | (v,m,g)=>match mergeAll mg ⟨fixB fx m.bs,m.nb⟩ (fixG fx g) with
  | some (m,g)=>mergeOut mo (fixV fx v) m g
  | none=>none
theorem tidy_ok {fx : List (Ref × Bool)} {mg mo : List (Nat × Nat)} {v v' : SV} {m m' : Mem} (h : tidy fx mg mo (v,m,g) = some (v',m',g')) : St I X E g g' m m' ∧
  (Good I X E g' → M O ρ E m.bs w → WF m → Fresh ρ m.nb m'.nb → ∃ ρ',M O ρ' E m'.bs w ∧ Ext ρ ρ' m m' w w ∧ ∀ u,v.sat ρ E u → v'.sat ρ' E u) := by
 unfold tidy at h
 simp only at h
 split at h
 ·rename_i m1 g1 hm
  obtain ⟨a1,a2⟩ := mergeAll_ok (I := I) (X := X) (E := E) (O := O) (ρ := ρ) (w := w) hm
  obtain ⟨b1,_⟩ := mergeOut_ok (I := I) (X := X) (E := E) (O := O) (ρ := ρ) (w := w) h
  have s0 : St I X E g (fixG fx g) m ⟨fixB fx m.bs,m.nb⟩ := St.of_ids (fun H=>(fixG_ok H).1) fixB_ids (Nat.le_refl _)
  refine ⟨(s0.trans a1).trans b1,fun H hM hW hF=>?_⟩
  have H1 := b1.good H
  have hfx := (fixG_ok (a1.good H1)).2
  have hF1 : Fresh ρ m.nb m1.nb := hF.sub (Nat.le_refl _) b1.nb
  obtain ⟨ρ',k1,k2⟩ := a2 H1 (fixB_ok hfx hM) (s0.wf hW) hF1
  have k0 : Ext ρ ρ m ⟨fixB fx m.bs,m.nb⟩ w w := ⟨Lk.rfl',Nat.le_refl _,fun _ _ _=>rfl,fun _=>.inr rfl,fun _ _ _ h=>absurd rfl h,Go.RowKit.Below.refl 0 w⟩
  have k3 := k0.trans k2 s0 a1 (hF1.sub (Nat.le_refl _) a1.nb)
  have s1 := s0.trans a1
  obtain ⟨_,b2⟩ := mergeOut_ok (I := I) (X := X) (E := E) (O := O) (ρ := ρ') (w := w) h
  obtain ⟨ρ'',c1,c2,c3⟩ := b2 H k1 (s1.wf hW) (hF.step k3 s1)
  exact ⟨ρ'',c1,k3.trans c2 s1 b1 hF1,fun u hu=>c3 u (SV.mono k2.le _ (fixV_ok hfx hu))⟩
 ·cases h
def suppP (g : Gl) (sup : List (Ref × Bool)) : List (Ref × Bool) := sup.foldr (fun p P=>moreP g p P) []
def impL (g : Gl) (P : List (Ref × Bool)) : Leaf → Leaf
 | .bool r=>match impR g 40 P (r,true) with
  | true=>.bool (.c 1)
  | false=>match impR g 40 P (r,false) with
   | true=>.bool (.c 0)
   | false=>.bool r
 | l=>l
def impB (g : Gl) (P : List (Ref × Bool)) (b : SB) : SB := { b with cells := b.cells.map (impL g P) }
theorem impL_ok (H : Good I X E g) {P : List (Ref × Bool)} (hP : allC E P = true) {l : Leaf} {v : Value} (hv : l.sat ρ E v) : (impL g P l).sat ρ E v := by
 cases l with
 | bool r =>
  simp only [impL]
  have hv : v = .bool (truth (r.val E)) := hv
  split
  ·rename_i h
   rw [impR_ok H 40 hP h] at hv
   exact hv
  ·split
   ·rename_i h
    rw [impR_ok H 40 hP h] at hv
    exact hv
   ·exact hv
 | _=>exact hv
theorem impB_ok (H : Good I X E g) {P : List (Ref × Bool)} (hP : allC E P = true) {m : List SB} (hM : M O ρ E m w) : M O ρ E (m.map (impB g P)) w := by
 have hs : ∀ {ls : List Leaf} {vs : List Value},sats ρ E ls vs → sats ρ E (ls.map (impL g P)) vs := by
  intro ls
  induction ls with
  | nil=>intro _ _; trivial
  | cons l ls ih =>
   intro vs hv
   cases vs with
   | nil=>exact hv.elim
   | cons v vs=>exact ⟨impL_ok H hP hv.1,ih hv.2⟩
 refine ⟨fun b hb hc=>?_,fun b hb b' hb' hc hc' hne L L' hL hL'=>?_,fun b hb hc L hL=>?_⟩
 ·obtain ⟨d,d1,rfl⟩ := List.mem_map.1 hb
  exact (hM.blk d d1 hc).congr rfl rfl fun vs hv=>hs hv
 ·obtain ⟨d,d1,rfl⟩ := List.mem_map.1 hb
  obtain ⟨d',d1',rfl⟩ := List.mem_map.1 hb'
  exact hM.disj d d1 d' d1' hc hc' hne L L' hL hL'
 ·obtain ⟨d,d1,rfl⟩ := List.mem_map.1 hb
  exact hM.low d d1 hc L hL
def suppose (sup : List (Ref × Bool)) (r : SV × Mem × Gl) : SV × Mem × Gl :=
 match sup with
 | []=>r
 | p :: sup=>(fixV (p :: sup) (resV r.2.2 (suppP r.2.2 (p :: sup)) r.1),⟨fixB (p :: sup) ((r.2.1.bs.map (resB r.2.2 (suppP r.2.2 (p :: sup)))).map (impB r.2.2 (suppP r.2.2 (p :: sup)))),r.2.1.nb⟩,r.2.2)
theorem suppP_ok (H : Good I X E g) : ∀ {sup : List (Ref × Bool)},allC E sup = true → allC E (suppP g sup) = true
 | [],_=>rfl
 | (r,y) :: l,h=>by
  simp only [allC,List.all_cons,Bool.and_eq_true,beq_iff_eq] at h
  exact moreP_ok H (suppP_ok H h.2) h.1
theorem suppose_g {sup : List (Ref × Bool)} {r : SV × Mem × Gl} : (suppose sup r).2.2 = r.2.2 := by unfold suppose; split <;> rfl
theorem suppose_ok {sup : List (Ref × Bool)} {v : SV} {m : Mem} : St I X E g g m (suppose sup (v,m,g)).2.1 ∧ (suppose sup (v,m,g)).2.1.nb = m.nb ∧
  (Good I X E g → allC E sup = true → M O ρ E m.bs w → M O ρ E (suppose sup (v,m,g)).2.1.bs w ∧ Ext ρ ρ m (suppose sup (v,m,g)).2.1 w w ∧ ∀ u,v.sat ρ E u → (suppose sup (v,m,g)).1.sat ρ E u) := by
 unfold suppose
 split
 ·exact ⟨St.rfl',rfl,fun _ _ hM=>⟨hM,Ext.rfl',fun _ h=>h⟩⟩
 ·rename_i p l
  have hids : ((m.bs.map (resB g (suppP g (p :: l)))).map (impB g (suppP g (p :: l)))).map (·.id) = m.bs.map (·.id) := by
   rw [List.map_map,List.map_map]; exact List.map_congr_left fun _ _=>rfl
  have hsub : ((fixB (p :: l) ((m.bs.map (resB g (suppP g (p :: l)))).map (impB g (suppP g (p :: l))))).map (·.id)).Sublist (m.bs.map (·.id)) := by
   have := fixB_ids (fx := p :: l) (bs := (m.bs.map (resB g (suppP g (p :: l)))).map (impB g (suppP g (p :: l))))
   rw [hids] at this
   exact this
  refine ⟨St.of_ids (fun H=>H) hsub (Nat.le_refl _),rfl,fun H ha hM=>⟨fixB_ok ha (impB_ok H (suppP_ok H ha) (resBs_ok H (suppP_ok H ha) hM)),⟨Lk.rfl',Nat.le_refl _,fun _ _ _=>rfl,fun _=>.inr rfl,fun _ _ _ h=>absurd rfl h,Go.RowKit.Below.refl 0 w⟩,fun u hu=>fixV_ok ha (resV_ok H (suppP_ok H ha) hu)⟩⟩
end
def obN : Nat := 1000000
structure MLit where
 args : List SV
 mem : List SB
 nt : Nat
 k : Nat
 dom : List (Nat × Int × Int)
 out : SV
 nw : List SB
 dif : List (Nat × List (Nat × Leaf))
 gone : List Nat
 nt' : Nat
 ivs : List (Nat × Int × Int)
 gl : List Nat
 fx : List (Ref × Bool) := []
 mg : List (Nat × Nat) := []
 mo : List (Nat × Nat) := []
 sup : List (Ref × Bool) := []
 es : List Nat := []
 ivx : List (Nat × Int × Int) := []
def patchL : List (Nat × Leaf) → List Leaf → List Leaf
 | [],cs=>cs
 | (o,l) :: ps,cs=>patchL ps (cs.set o l)
def lkpD (l : List (Nat × List (Nat × Leaf))) (i : Nat) : Option (List (Nat × Leaf)) :=
 match l with
 | []=>none
 | (a,b) :: l=>if Nat.beq a i then some b else lkpD l i
def patchB (dif : List (Nat × List (Nat × Leaf))) (gone : List Nat) : List SB → List SB
 | []=>[]
 | b :: bs=>if gone.any (fun i=>Nat.beq i b.id) then patchB dif gone bs else
  match lkpD dif b.id with
  | some ps=>{ b with cells := patchL ps b.cells } :: patchB dif gone bs
  | none=>b :: patchB dif gone bs
def MLit.iva (L : MLit) : List (Nat × Int × Int) := L.ivx ++ L.ivs
def ivxOk (dom : Nat → Iv) (nd : Nat) (defs : List Df) (l : List (Nat × Int × Int)) : Bool := l.all fun p =>
 wfDefs (nd + 2) (.bin .leq .i64 (.c p.2.1) (.e p.1) :: .bin .leq .i64 (.e p.1) (.c p.2.2) :: defs) && Nat.blt p.1 nd &&
  oblOkA dom (ivDefs dom (nd + 2) (.bin .leq .i64 (.c p.2.1) (.e p.1) :: .bin .leq .i64 (.e p.1) (.c p.2.2) :: defs)) (.bin .leq .i64 (.c p.2.1) (.e p.1) :: .bin .leq .i64 (.e p.1) (.c p.2.2) :: defs) (nd + 2) [(.c 1,.e nd),(.c 1,.e (nd + 1))] (.c 0) .nil
def MLit.after (L : MLit) : List SB := L.nw ++ patchB L.dif L.gone L.mem
def SB.sameN (a b : SB) : Bool := Nat.beq a.id b.id && sames a.cells b.cells && decide (a.obj = b.obj) && sameCs a.cs b.cs
def sameBs : List SB → List SB → Bool
 | [],b=>match b with
  | []=>true
  | _ :: _=>false
 | x :: xs,b=>match b with
  | y :: ys=>match Nat.beq x.id y.id with
   | true=>match SB.sameN x y with
    | true=>sameBs xs ys
    | false=>false
   | false=>sameBs xs (y :: ys)
  | []=>true
def MLit.ev (L : MLit) (C : Cx) (d fuel : Nat) (f : FuncId) : Option (SV × Mem × Gl) :=
 match evFn C d fuel f L.args ⟨L.mem,L.nt⟩ (.c 1) (inps L.k) with
 | some r=>tidy L.fx L.mg L.mo (suppose L.sup r)
 | none=>none
def MLit.ms (L : MLit) (C : Cx) (d fuel : Nat) (f : FuncId) : MS := ⟨L.args,L.mem,L.nt,obN,L.k,L.dom,L.out,L.after,L.nt',runF (L.ev C d fuel f),lookIv L.iva,L.gl,L.es⟩
def MLit.check (L : MLit) (C : Cx) (d fuel : Nat) (f : FuncId) : Bool :=
 match L.ev C d fuel f with
 | some r =>
  let t := ivDefs (domI L.dom) r.2.2.nd r.2.2.defs
  r.1.same L.out && sameBs r.2.1.bs L.after && Nat.beq r.2.1.nb L.nt' && wfDefs r.2.2.nd r.2.2.defs && oblOkA (domI L.dom) t r.2.2.defs r.2.2.nd r.2.2.obl (.c 0) .nil && L.ivs.all (fun p=>decide (Tr.get fu t p.1 = some p.2)) && ivxOk (domI L.dom) r.2.2.nd r.2.2.defs L.ivx &&
   descB L.nt L.mem && Nat.ble L.nt' obN
 | none=>false
section
variable {O : Objs} {I : Nat → Int} {X : Nat → List Int → Int} {ρ : Map} {E : Nat → Int} {w : World} {C : Cx} [TyOk C.P C.T] [FnOk C.P C.F]
theorem SB.sameN_ok {a b : SB} (h : a.sameN b = true) : a.id = b.id ∧ a.cells = b.cells ∧ a.obj = b.obj ∧ a.cs = b.cs := by
 unfold SB.sameN at h
 simp only [Bool.and_eq_true,decide_eq_true_eq] at h
 exact ⟨Nat.eq_of_beq_eq_true h.1.1.1,sames_ok h.1.1.2,h.1.2,sameCs_ok h.2⟩
theorem Blk.sameN {a b : SB} (h : a.sameN b = true) (hb : Blk O ρ E a w) : Blk O ρ E b w := by
 obtain ⟨e1,e2,h3,_⟩ := SB.sameN_ok h
 obtain ⟨L,vs,k1,k2,k3⟩ := hb
 refine ⟨L,vs,by rw [← e1]; exact k1,by rw [← e2]; exact k2,?_⟩
 rw [← h3]
 exact k3
theorem sameBs_ok : ∀ {l l' : List SB},sameBs l l' = true → ∀ b ∈ l',∃ a ∈ l,a.sameN b = true
 | [],[],_=>fun _ h=>(by cases h)
 | [],_ :: _,h=>by cases h
 | _ :: _,[],_=>fun _ h=>(by cases h)
 | x :: xs,y :: ys,h=>by
  simp only [sameBs] at h
  split at h
  ·split at h
   ·rename_i hxy
    have k1 := sameBs_ok h
    intro b hb
    rcases List.mem_cons.1 hb with rfl | hb
    ·exact ⟨x,by simp,hxy⟩
    ·obtain ⟨a,ha,h⟩ := k1 b hb
     exact ⟨a,List.mem_cons_of_mem _ ha,h⟩
   ·cases h
  ·have k1 := sameBs_ok h
   intro b hb
   obtain ⟨a,ha,h⟩ := k1 b hb
   exact ⟨a,List.mem_cons_of_mem _ ha,h⟩
theorem M.sameBs {l l' : List SB} (h : sameBs l l' = true) (hM : M O ρ E l w) : M O ρ E l' w := by
 have k1 := sameBs_ok h
 refine ⟨fun b hb hc=>?_,fun b hb b' hb' hc hc' hne L L' hL hL'=>?_,fun b hb hc L hL=>?_⟩
 ·obtain ⟨a,ha,hab⟩ := k1 b hb
  exact (hM.blk a ha ((SB.sameN_ok hab).2.2.2 ▸ hc)).sameN hab
 ·obtain ⟨a,ha,hab⟩ := k1 b hb
  obtain ⟨a',ha',hab'⟩ := k1 b' hb'
  obtain ⟨e,_,_,ec⟩ := SB.sameN_ok hab
  obtain ⟨e',_,_,ec'⟩ := SB.sameN_ok hab'
  exact hM.disj a ha a' ha' (ec ▸ hc) (ec' ▸ hc') (by rw [e,e']; exact hne) L L' (by rw [e]; exact hL) (by rw [e']; exact hL')
 ·obtain ⟨a,ha,hab⟩ := k1 b hb
  obtain ⟨e,_,_,ec⟩ := SB.sameN_ok hab
  exact hM.low a ha (ec ▸ hc) L (by rw [e]; exact hL)
theorem runDefs_app {I : Nat → Int} : ∀ {more : List Df} {ds : List Df} {i : Nat},i < ds.length → runDefs I X0 (more ++ ds) i = runDefs I X0 ds i
 | [],_,_,_=>rfl
 | d :: more,ds,i,h=>by
  simp only [List.cons_append,runDefs,List.length_append]
  rw [if_neg (by omega),runDefs_app h]
theorem leq_of {I E : Nat → Int} {a b : Ref} (h : truth (Df.den I X0 E (.bin .leq .i64 a b)) = true) : a.val E ≤ b.val E := by
 simp only [Df.den,intSem] at h
 rw [truth_ofB] at h
 exact of_decide_eq_true h
theorem ivx_ok {dom : List (Nat × Int × Int)} {I : Nat → Int} (hd : InDom dom I) {nd : Nat} {defs : List Df} {l : List (Nat × Int × Int)} (h : ivxOk (domI dom) nd defs l = true) : ∀ p ∈ l,p.2.1 ≤ runDefs I X0 defs p.1 ∧ runDefs I X0 defs p.1 ≤ p.2.2 := fun p hp=>by
 have h1 := List.all_eq_true.1 h p hp
 rw [Bool.and_eq_true,Bool.and_eq_true,Nat.blt_eq] at h1
 obtain ⟨⟨h1,hlt⟩,h2⟩ := h1
 have hg := runDefs_good (I := I) (X := X0) h1
 have hl := wfDefs_len h1
 simp only [List.length_cons] at hl
 have hob := oblOkA_ok (domI_ok hd) (fun i=>ivDefs_ok (domI_ok hd) hg i) hg (fun h=>by cases h) h2
 have e1 := hob (.c 1,.e nd) (by simp) rfl
 have e2 := hob (.c 1,.e (nd + 1)) (by simp) rfl
 have k1 : ∀ i,i < defs.length → runDefs I X0 (.bin .leq .i64 (.e p.1) (.c p.2.2) :: defs) i = runDefs I X0 defs i := fun i hi=>runDefs_app (more := [.bin .leq .i64 (.e p.1) (.c p.2.2)]) (ds := defs) hi
 have q1 : ∀ d1 d2 : Df,runDefs I X0 (d1 :: d2 :: defs) nd = Df.den I X0 (runDefs I X0 defs) d2 := fun d1 d2=>by
  simp only [runDefs,List.length_cons]
  rw [if_neg (by omega),if_pos (by omega)]
 have q2 : ∀ d1 d2 : Df,runDefs I X0 (d1 :: d2 :: defs) (nd + 1) = Df.den I X0 (runDefs I X0 (d2 :: defs)) d1 := fun d1 d2=>by
  show (if nd + 1 = (d2 :: defs).length then _ else _) = _
  rw [if_pos (by simp only [List.length_cons]; omega)]
 have e1 : truth (runDefs I X0 _ nd) = true := e1
 have e2 : truth (runDefs I X0 _ (nd + 1)) = true := e2
 rw [q1] at e1
 rw [q2] at e2
 have e1 := leq_of e1
 have e2 := leq_of e2
 have k2 := k1 p.1 (by omega)
 simp only [Ref.val] at e1 e2
 rw [k2] at e2
 exact ⟨e2,e1⟩
def MLit.ent (L : MLit) (C : Cx) (d fuel : Nat) (f : FuncId) (xs : List Int) : Nat → Int := fun i=>runF (L.ev C d fuel f) i xs
structure MLit.Holds (L : MLit) (C : Cx) (O : Objs) (d fuel : Nat) (f : FuncId) : Prop where
 body : ∃ fn b,C.P.funcs[f]? = some fn ∧ fn.body = some b
 wf : WF ⟨L.mem,L.nt⟩
 nt : L.nt ≤ L.nt'
 nb : L.nt' ≤ obN
 ids : ∀ b ∈ L.after,(∃ b0 ∈ L.mem,b0.id = b.id) ∨ (L.nt ≤ b.id ∧ b.id < L.nt')
 inp : ∀ xs,InDom L.dom (ofL xs) → ∀ i,i < L.k → L.ent C d fuel f xs i = xs.getD i 0
 iv : ∀ xs,InDom L.dom (ofL xs) → ∀ i,clampI (lookIv L.iva i).1 (lookIv L.iva i).2 (L.ent C d fuel f xs i) = L.ent C d fuel f xs i
 run : ∀ xs,InDom L.dom (ofL xs) → allC (L.ent C d fuel f xs) L.sup = true → ∀ ρ vs w,satVs ρ (L.ent C d fuel f xs) L.args vs → GlobOk C ρ → M O ρ (L.ent C d fuel f xs) L.mem w → Fresh ρ L.nt L.nt' →
  Calls C.P f vs.toArray w fun e w'=>∃ ρ' u,e = .returned u ∧ L.out.sat ρ' (L.ent C d fuel f xs) u ∧ M O ρ' (L.ent C d fuel f xs) L.after w' ∧ Ext ρ ρ' ⟨L.mem,L.nt⟩ ⟨L.after,L.nt'⟩ w w'
theorem MLit.holds (hmix : C.P.follows .mixedOrders = true) (hname : ∀ (f : FuncId) (fn : Func),C.P.funcs[f]? = some fn → fn.name ≠ "runtime.NumGoroutine")
  (hctr : ∀ I X E f c,C.ctr f = some c → CtrOk C O I X E f c) {L : MLit} {f : FuncId} {fuel d : Nat} (hck : L.check C d fuel f = true) : L.Holds C O d fuel f := by
 unfold MLit.check at hck
 split at hck
 ·rename_i r hev
  obtain ⟨v,m',g1⟩ := r
  simp only [Bool.and_eq_true] at hck
  obtain ⟨⟨⟨⟨⟨⟨⟨⟨h0,h1⟩,h2⟩,h3⟩,h4⟩,h5⟩,h5x⟩,h6⟩,h7⟩ := hck
  have h0 := SV.same_ok h0
  have h2 := Nat.eq_of_beq_eq_true h2
  have h7 := Nat.le_of_ble_eq_true h7
  have hWt : WF ⟨L.mem,L.nt⟩ := let ⟨a,b⟩ := descB_ok h6; ⟨a,b⟩
  have ht : ∀ I,InDom L.dom I → ∀ i,(Tr.get fu (ivDefs (domI L.dom) g1.nd g1.defs) i).has (runDefs I X0 g1.defs i) := fun I hI=>ivDefs_ok (domI_ok hI) (runDefs_good h3)
  have hcall := fun (I : Nat → Int) (E : Nat → Int)=>evFn_ok (C := C) (O := O) (I := I) (X := X0) (E := E) hmix hname (fun f c hc=>hctr I X0 E f c hc) fuel d
  have hev0 := hev
  unfold MLit.ev at hev0
  split at hev0
  rotate_left
  ·cases hev0
  rename_i r0 hevf
  obtain ⟨v0,m0,g0⟩ := r0
  have hst0 := (hcall (fun _=>0) (fun _=>0) _ _ _ _ _ _ _ _ hevf).2.1 hWt
  rcases hsup : suppose L.sup (v0,m0,g0) with ⟨v1,m2,g2⟩
  rw [hsup] at hev0
  have hg2 : g2 = g0 := by have := suppose_g (sup := L.sup) (r := (v0,m0,g0)); rw [hsup] at this; exact this
  subst hg2
  have hsp := fun (I : Nat → Int) (E : Nat → Int) (ρ : Map) (w : World)=>suppose_ok (O := O) (I := I) (X := X0) (E := E) (ρ := ρ) (w := w) (g := g2) (sup := L.sup) (v := v0) (m := m0)
  simp only [hsup] at hsp
  have hstm := fun (I : Nat → Int) (E : Nat → Int) (ρ : Map) (w : World)=>tidy_ok (O := O) (I := I) (X := X0) (E := E) (ρ := ρ) (w := w) hev0
  have hst := (hst0.trans (hsp (fun _=>0) (fun _=>0) (fun _=>none) default).1).trans (hstm (fun _=>0) (fun _=>0) (fun _=>none) default).1
  have hE : ∀ xs,L.ent C d fuel f xs = runDefs (ofL xs) X0 g1.defs := fun xs=>funext fun i=>by simp only [MLit.ent,runF,hev]
  have hGf : ∀ xs,InDom L.dom (ofL xs) → Good (ofL xs) X0 (runDefs (ofL xs) X0 g1.defs) g1 := fun xs hdom=>⟨runDefs_good h3,oblOkA_ok (domI_ok hdom) (ht _ hdom) (runDefs_good h3) (fun h=>by cases h) h4⟩
  refine ⟨?_,hWt,by rw [← h2]; exact hst.nb,h7,fun b hb=>?_,fun xs hdom i hi=>?_,fun xs hdom i=>?_,fun xs hdom has ρ vs w hs hG hM hF=>?_⟩
  ·obtain ⟨⟨fn,b,k1,k2,_⟩,_⟩ := hcall (fun _=>0) (fun _=>0) _ _ _ _ _ _ _ _ hevf
   exact ⟨fn,b,k1,k2⟩
  ·obtain ⟨a,ha,hab⟩ := sameBs_ok h1 b hb
   have e : a.id = b.id := (SB.sameN_ok hab).1
   rw [← e]
   have := hst.ids a ha
   rw [h2] at this
   exact this
  ·have hGe := (hstm (ofL xs) (runDefs (ofL xs) X0 g1.defs) (fun _=>none) default).1.good (hGf xs hdom)
   have hG0 := ((hcall (ofL xs) (runDefs (ofL xs) X0 g1.defs) _ _ _ _ _ _ _ _ hevf).2.1 hWt).good hGe
   rw [hE,inps_good hG0 i hi]; rfl
  ·rw [hE]
   unfold lookIv
   split
   ·rename_i p hp
    have hk : p.1 = i := by simpa using List.find?_some hp
    have hpm := List.mem_of_find?_eq_some hp
    unfold MLit.iva at hpm
    rcases List.mem_append.1 hpm with hpm | hpm
    ·have hb := ivx_ok hdom h5x p hpm
     rw [hk] at hb
     unfold clampI
     rw [if_neg (by omega),if_pos hb]
    ·have h8 := List.all_eq_true.1 h5 p hpm
     simp only [decide_eq_true_eq] at h8
     rw [hk] at h8
     have hb := ht _ hdom i p.2 h8
     unfold clampI
     simp [hb]
   ·simp [clampI]
  ·obtain ⟨_,q1,q2⟩ := hcall (ofL xs) (runDefs (ofL xs) X0 g1.defs) _ _ _ _ _ _ _ _ hevf
   have hGe := (hstm (ofL xs) (runDefs (ofL xs) X0 g1.defs) ρ w).1.good (hGf xs hdom)
   rw [hE] at hs hM has ⊢
   have hF' : Fresh ρ L.nt m'.nb := by rw [h2]; exact hF
   have hnb2 : m2.nb = m0.nb := (hsp (fun _=>0) (fun _=>0) (fun _=>none) default).2.1
   refine Calls.mono (q2 hGe ρ vs w hs hG hM hWt rfl (hF'.sub (Nat.le_refl _) (by rw [← hnb2]; exact (hstm (ofL xs) (runDefs (ofL xs) X0 g1.defs) ρ w).1.nb))) fun e w' he=>?_
   obtain ⟨ρ1,u,rfl,k1,k2,k4⟩ := he
   obtain ⟨s1,_,s2⟩ := hsp (ofL xs) (runDefs (ofL xs) X0 g1.defs) ρ1 w'
   obtain ⟨k2',k4',k1'⟩ := s2 hGe has k2
   have hWf2 := s1.wf ((q1 hWt).wf hWt)
   have k4 := k4.trans k4' (q1 hWt) s1 (hF'.sub (Nat.le_refl _) (by rw [← hnb2]; exact (hstm (ofL xs) (runDefs (ofL xs) X0 g1.defs) ρ w).1.nb))
   have q1 := (q1 hWt).trans s1
   obtain ⟨ρ',k5,k6,k7⟩ := (hstm (ofL xs) (runDefs (ofL xs) X0 g1.defs) ρ1 w').2 (hGf xs hdom) k2' hWf2 (hF'.step k4 q1)
   have k3 := k4.trans k6 q1 (hstm (ofL xs) (runDefs (ofL xs) X0 g1.defs) ρ1 w').1 (hF'.sub (Nat.le_refl _) (hstm (ofL xs) (runDefs (ofL xs) X0 g1.defs) ρ w).1.nb)
   refine ⟨ρ',u,rfl,by rw [← h0]; exact k7 u (k1' u k1),k5.sameBs h1,⟨k3.le,k3.size,k3.keep,fun i=>?_,k3.new,k3.io⟩⟩
   have := k3.chg i
   rw [h2] at this
   exact this
 ·cases hck
theorem MLit.ok (hmix : C.P.follows .mixedOrders = true) (hname : ∀ (f : FuncId) (fn : Func),C.P.funcs[f]? = some fn → fn.name ≠ "runtime.NumGoroutine")
  (hctr : ∀ I X E f c,C.ctr f = some c → CtrOk C O I X E f c) {L : MLit} {f : FuncId} {fuel d : Nat} (hglob : ∀ gl id,C.glob gl = some id → id ∈ L.gl) (hck : L.check C d fuel f = true) (has : L.sup = [] := by rfl) : ∀ I X E,CtrOk C O I X E f (L.ms C d fuel f).ctr := by
 have H := MLit.holds hmix hname hctr hck
 refine MS.of (L.ms C d fuel f) H.body H.wf H.nt H.nb hglob H.ids fun xs hxl hdom Ef hE1 hE2 ρ vs w hs hG hM hF=>?_
 have hEf : Ef = L.ent C d fuel f xs := funext fun i=>by
  by_cases hi : i < L.k
  ·rw [hE1 i hi,H.inp xs hdom i hi]
  ·rw [hE2 i (by show L.k ≤ i; omega)]
   exact H.iv xs hdom i
 rw [hEf] at hs hM ⊢
 exact H.run xs hdom (by rw [has]; rfl) ρ vs w hs hG hM hF
def Ctr.or (a b : Ctr) : Ctr where
 run args m pc g := match a.run args m pc g with
  | some r=>some r
  | none=>b.run args m pc g
omit [TyOk C.P C.T] [FnOk C.P C.F] in
theorem CtrOk.or {f : FuncId} {a b : Ctr} (ha : CtrOk C O I X E f a) (hb : CtrOk C O I X E f b) : CtrOk C O I X E f (a.or b) := fun args m pc g v m' g' h=>by
 unfold Ctr.or at h
 simp only at h
 split at h
 ·rename_i r hr
  injection h with h; subst h
  exact ha args m pc g v m' g' hr
 ·exact hb args m pc g v m' g' h
end
def zig : Int → Nat
 | .ofNat n=>2 * n
 | .negSucc n=>2 * n + 1
theorem zig_inj : ∀ {a b : Int},zig a = zig b → a = b
 | .ofNat a,.ofNat b,h=>by simp only [zig] at h; congr 1; omega
 | .negSucc a,.negSucc b,h=>by simp only [zig] at h; congr 1; omega
 | .ofNat a,.negSucc b,h=>by simp only [zig] at h; omega
 | .negSucc a,.ofNat b,h=>by simp only [zig] at h; omega
def pairN (a m : Nat) : Nat := 2 ^ a * (2 * m + 1)
theorem pairN_inj : ∀ {a b m n : Nat},pairN a m = pairN b n → a = b ∧ m = n
 | 0,0,m,n,h=>by simp only [pairN,Nat.pow_zero,Nat.one_mul] at h; exact ⟨rfl,by omega⟩
 | a + 1,b + 1,m,n,h=>by
  have : pairN a m = pairN b n := by
   simp only [pairN,Nat.pow_succ,Nat.mul_assoc,Nat.mul_left_comm _ 2] at h ⊢
   omega
  obtain ⟨h1,h2⟩ := pairN_inj this
  exact ⟨by omega,h2⟩
 | 0,b + 1,m,n,h=>by
  simp only [pairN,Nat.pow_zero,Nat.one_mul,Nat.pow_succ,Nat.mul_assoc,Nat.mul_left_comm _ 2] at h
  omega
 | a + 1,0,m,n,h=>by
  simp only [pairN,Nat.pow_zero,Nat.one_mul,Nat.pow_succ,Nat.mul_assoc,Nat.mul_left_comm _ 2] at h
  omega
theorem pairN_pos {a m : Nat} : 0 < pairN a m := Nat.mul_pos (Nat.two_pow_pos a) (by omega)
def codeL : List Int → Nat
 | []=>0
 | x :: xs=>pairN (zig x) (codeL xs)
theorem codeL_inj : ∀ {a b : List Int},codeL a = codeL b → a = b
 | [],[],_=>rfl
 | [],y :: ys,h=>by have := @pairN_pos (zig y) (codeL ys); simp only [codeL] at h; omega
 | x :: xs,[],h=>by have := @pairN_pos (zig x) (codeL xs); simp only [codeL] at h; omega
 | x :: xs,y :: ys,h=>by
  simp only [codeL] at h
  obtain ⟨h1,h2⟩ := pairN_inj h
  rw [zig_inj h1,codeL_inj h2]
def codeI (l : List Int) : Int := (codeL l : Nat)
open Classical in
noncomputable def decI (n : Int) : List Int := if h : ∃ l,codeI l = n then h.choose else []
theorem dec_code (l : List Int) : decI (codeI l) = l := by
 unfold decI
 have h : ∃ k,codeI k = codeI l := ⟨l,rfl⟩
 rw [dif_pos h]
 have h1 : ((codeL h.choose : Nat) : Int) = (codeL l : Nat) := h.choose_spec
 exact codeL_inj (Int.ofNat.inj h1)
def gmap (ng : Nat) : Map := fun i=>if i < ng then some ⟨i,0,fun _=>False,default⟩ else none
theorem gmap_glob {C : Cx} {ng : Nat} (h : ∀ gl id,C.glob gl = some id → gl = id ∧ id < ng) : GlobOk C (gmap ng) := fun gl id hg=>by
 obtain ⟨rfl,hlt⟩ := h gl id hg
 exact ⟨⟨gl,0,fun _=>False,default⟩,by unfold gmap; rw [if_pos hlt],rfl⟩
theorem gmap_fresh {ng hi : Nat} : Fresh (gmap ng) ng hi := fun i h _=>by unfold gmap; rw [if_neg (by omega)]
section
variable {O : Objs} {C : Cx} {L : MLit} {d fuel : Nat} {f : FuncId}
theorem MLit.Holds.pure (H : L.Holds C O d fuel f) (hm : L.mem = []) (hg : ∀ gl id,C.glob gl = some id → gl = id ∧ id < L.nt) {xs : List Int} (hd : InDom L.dom (ofL xs)) (has : L.sup = [] := by rfl) {vs : List Value} {w : World}
  (hs : satVs (gmap L.nt) (L.ent C d fuel f xs) L.args vs) : Calls C.P f vs.toArray w fun e w'=>∃ ρ u,e = .returned u ∧ L.out.sat ρ (L.ent C d fuel f xs) u ∧ Quiet w w' := by
 refine Calls.mono (H.run xs hd (by rw [has]; rfl) (gmap L.nt) vs w hs (gmap_glob hg) ⟨fun b hb=>?_,fun b hb=>?_,fun b hb=>?_⟩ gmap_fresh) fun e w' he=>?_
 ·rw [hm] at hb; cases hb
 ·rw [hm] at hb; cases hb
 ·rw [hm] at hb; cases hb
 ·obtain ⟨ρ',u,he,h1,_,h3⟩ := he
  exact ⟨ρ',u,he,h1,h3.io.os,h3.io.tape,h3.io.output,h3.size,fun k hk=>h3.keep k hk fun b hb=>by rw [hm] at hb; cases hb⟩
end
section
variable {O : Objs} {ρ ρ' : Map} {E : Nat → Int} {w w' : World} {m : List SB}
theorem M.push {n : Nat} {L : Loc} {ls : List Leaf} {obj : Option Nat} (hM : M O ρ E m w) (hf : ρ n = none) (hn : ∀ b ∈ m,b.id ≠ n) (hb : Blk O (more ρ n L) E ⟨n,[],ls,obj⟩ w)
  (hd : ∀ b ∈ m,allC E b.cs = true → ∀ L',ρ b.id = some L' → ∀ x,L.own x → ¬ L'.own x) (hl : ∀ x,L.own x → x < w.heap.size) : M O (more ρ n L) E (⟨n,[],ls,obj⟩ :: m) w := by
 have hle : Lk ρ (more ρ n L) := (more_le hf).lk
 refine ⟨fun b hb' hc=>?_,fun b hb' c hc' hbc hcc hne L1 L2 h1 h2 x hx hx'=>?_,fun b hb' hc L1 h1 x hx=>?_⟩
 ·rcases List.mem_cons.1 hb' with rfl | hb'
  ·exact hb
  ·exact (hM.blk b hb' hc).mono hle (more_ne (hn b hb'))
 ·rcases List.mem_cons.1 hb' with rfl | hb' <;> rcases List.mem_cons.1 hc' with rfl | hc'
  ·exact hne rfl
  ·rw [more_ne (hn c hc')] at h2
   simp only [more_self,Option.some.injEq] at h1
   subst h1
   exact hd c hc' hcc L2 h2 x hx hx'
  ·rw [more_ne (hn b hb')] at h1
   simp only [more_self,Option.some.injEq] at h2
   subst h2
   exact hd b hb' hbc L1 h1 x hx' hx
  ·rw [more_ne (hn b hb')] at h1
   rw [more_ne (hn c hc')] at h2
   exact hM.disj b hb' c hc' hbc hcc hne L1 L2 h1 h2 x hx hx'
 ·rcases List.mem_cons.1 hb' with rfl | hb'
  ·simp only [more_self,Option.some.injEq] at h1
   subst h1
   exact hl x hx
  ·rw [more_ne (hn b hb')] at h1
   exact hM.low b hb' hc L1 h1 x hx
theorem Ext.news {m' : Mem} {mm : Mem} (hq : Quiet w w') (hle : Lk ρ ρ') (hc : ∀ i,ρ' i ≠ ρ i → mm.nb ≤ i ∧ i < m'.nb) (hn : ∀ i L,ρ' i = some L → ρ' i ≠ ρ i → ∀ x,L.own x → w.heap.size ≤ x) : Ext ρ ρ' mm m' w w' :=
 ⟨hle,hq.size,fun n h _=>hq.block n h,fun i=>by
  by_cases e : ρ' i = ρ i
  ·exact .inr e
  ·exact .inl (.inl (hc i e)),fun i L h1 h2 x hx=>.inl (hn i L h1 h2 x hx),hq.mono (Nat.zero_le _)⟩
theorem new1 {nt : Nat} {L : Loc} {ls : List Leaf} {obj : Option Nat} (hM : M O ρ E m w) (hW : WF ⟨m,nt⟩) (hf : Fresh ρ nt (nt + 1)) (hq : Quiet w w') (hb : Blk O (more ρ nt L) E ⟨nt,[],ls,obj⟩ w')
  (hown : ∀ x,L.own x → w.heap.size ≤ x ∧ x < w'.heap.size) : M O (more ρ nt L) E (⟨nt,[],ls,obj⟩ :: m) w' ∧ Ext ρ (more ρ nt L) ⟨m,nt⟩ ⟨⟨nt,[],ls,obj⟩ :: m,nt + 1⟩ w w' := by
 have hn : ρ nt = none := hf nt (Nat.le_refl _) (Nat.lt_succ_self _)
 refine ⟨(hM.quiet hq).push hn (fun b hb e=>by have := hW.2 b hb; simp only at this; omega) hb (fun b hb hc L' hL' x hx hx'=>?_) (fun x hx=>(hown x hx).2),Ext.news hq (more_le hn).lk (fun i hi=>?_) fun i L1 h1 h2 x hx=>?_⟩
 ·have := hM.low b hb hc L' hL' x hx'
  have := (hown x hx).1
  omega
 ·by_cases e : i = nt
  ·subst e; exact ⟨Nat.le_refl _,Nat.lt_succ_self _⟩
  ·exact absurd (more_ne e) hi
 ·by_cases e : i = nt
  ·subst e
   simp only [more_self,Option.some.injEq] at h1
   subst h1
   exact (hown x hx).1
  ·exact absurd (more_ne e) h2
end
def tabs3 : List SB := [⟨2,[],[5,4,6,2,3,1].map (fun n=>.int .i64 (.c n)),none⟩,⟨1,[],[0,64,33,35,39,7,15,8].map (fun n=>.int .i64 (.c n)),none⟩,⟨0,[],[0,10923,21846,32768,43691,54614,65536].map (fun n=>.int .i64 (.c n)),none⟩]
noncomputable def mkCx (l : List (FuncId × Ctr)) : Cx := ⟨Tryz.prog,tyTree.get,fnTree.get,fun g=>if g < 3 then some g else none,tblCtr l⟩
theorem cx_mix : Tryz.prog.follows .mixedOrders = true := by decide +kernel
theorem cx_name_all : Tryz.prog.funcs.all (fun fn=>fn.name != "runtime.NumGoroutine") = true := by decide +kernel
theorem cx_name (f : FuncId) (fn : Func) (h : Tryz.prog.funcs[f]? = some fn) : fn.name ≠ "runtime.NumGoroutine" := by
 have h1 := cx_name_all
 rw [Array.all_eq_true] at h1
 obtain ⟨hlt,he⟩ := Array.getElem?_eq_some_iff.1 h
 have := h1 f hlt
 rw [he] at this
 simpa using this
instance mkCx_ty (l : List (FuncId × Ctr)) : TyOk (mkCx l).P (mkCx l).T := tyTree_ok
instance mkCx_fn (l : List (FuncId × Ctr)) : FnOk (mkCx l).P (mkCx l).F := fnTree_ok
theorem mkCx_glob (l : List (FuncId × Ctr)) (gl id : Nat) (h : (mkCx l).glob gl = some id) : id < 3 := by
 simp only [mkCx] at h
 split at h
 ·injection h with h; omega
 ·cases h
def TbOk (l : List (FuncId × Ctr)) : Prop := ∀ (O : Objs) I X E f c,tblCtr l f = some c → CtrOk (mkCx l) O I X E f c
theorem tbS_ok {l : List (FuncId × Ctr)} (h : TbOk l) {f : FuncId} {L : Lit} (hc : L.check (mkCx l) 20 400 f 3 = true) : TbOk ((f,(L.sum (mkCx l) 20 400 f 3).ctr) :: l) := fun O =>
 tbl_cons (h O) (Lit.ok (C := mkCx l) cx_mix cx_name (h O) (mkCx_glob l) hc)
theorem mkCx_gl (l : List (FuncId × Ctr)) (gl id : Nat) (h : (mkCx l).glob gl = some id) : id ∈ [0,1,2] := by
 have := mkCx_glob l gl id h
 match id,this with
 | 0,_=>simp
 | 1,_=>simp
 | 2,_=>simp
end Go.Proofs.YtbegodiligmphaaGreatDoor.Sy
namespace Go.Proofs.YtbegodiligmphaaGreatDoor
open Go Go.RowKit
theorem quietF {P : Program} {f : FuncId} {args : Array Value} {w : World} {n : Nat} {v : Value} (h : Calls P f args (w.drewN n) fun e w'=>e = .returned v ∧ w.drewN n = w') : Calls P f args (w.drewN n) fun e w''=>e = .returned v ∧ ∃ m,w'' = w.drewN m :=
 h.mono fun _ _ ⟨he,hm⟩=>⟨he,n,hm.symm⟩
theorem flWithin (n lo hi : Int) (h1 : lo ≤ n) (h2 : n ≤ hi) (w : World) : Calls Tryz.prog 54 #[.int .i64 n,.int .i64 lo,.int .i64 hi] w fun e w'=>e = .returned (.bool true) ∧ w = w' := by
 go_enter Tryz.func54,Tryz.ntmps54
 go_wp2
 go_ret
 exact ⟨rfl,rfl⟩
abbrev flC (I W c : Nat) : Array Value := #[.int .i64 8,.slice (some ⟨I,0,none⟩) 1024 1024,.slice (some ⟨W,0,none⟩) 2 c,.bool false,.int .i64 (-1),.slice none 0 0]
theorem flCut {F t I W c : Nat} {w : World} (hF : Blk w F t (flC I W c)) : Calls Tryz.prog 240 #[.pointer (some ⟨F,0,none⟩)] w fun e w'=>e = .returned (.bool false) ∧ w = w' := by
 obtain ⟨y0,y1,y2,y3,y4,y5⟩ := Blk.c6 hF
 go_enter Tryz.func240,Tryz.ntmps240
 go_wp2
 go_ret
 exact ⟨rfl,rfl⟩
set_option maxHeartbeats 1600000 in
theorem flAt {F t I W c k : Nat} {w : World} (hF : Blk w F t (flC I W c)) (hk : k < 16) : Calls Tryz.prog 242 #[.pointer (some ⟨F,0,none⟩),.int .i64 k] w fun e w'=>e = .returned (.tuple #[.slice (some ⟨I,k * 64,none⟩) 64 (1024 - k * 64),.nilIface]) ∧ ∃ n,w' = w.drewN n := by
 obtain ⟨y0,y1,y2,y3,y4,y5⟩ := Blk.c6 hF
 have hw := flWithin (k : Int) 0 15 (by omega) (by omega)
 go_enter Tryz.func242,Tryz.ntmps242
 go_wp2
 go_quiet ((go_at_call 54; exact quietF (hw _)))
 go_wp2
 go_ret2
 refine ⟨?_,nq,rfl⟩
 show Ending.returned (.tuple #[.slice (some ⟨I,k * 64,none⟩) ((k + 1) * 64 - k * 64) (1024 - k * 64),.nilIface]) = _
 rw [show (k + 1) * 64 - k * 64 = 64 by omega]
def bsA (xs : List Int) : Array Value := (xs.map fun n=>Value.int .u8 n).toArray
theorem bs_cell {w : World} {I t : Nat} {xs : List Int} (h : Blk w I t (bsA xs)) {i : Nat} (hi : i < xs.length) : w.cell? ⟨I,i,none⟩ = some (.int .u8 (xs.getD i 0)) := by
 rw [h.cell i]
 unfold bsA
 simp only [List.getElem?_toArray,List.getElem?_map]
 rw [List.getD_eq_getElem?_getD,List.getElem?_eq_getElem hi]
 rfl
theorem bs_set {w : World} {I t : Nat} {xs : List Int} (h : Blk w I t (bsA xs)) (i : Nat) (n : Int) : Blk (w.setCell ⟨I,i,none⟩ (.int .u8 n)) I t (bsA (xs.set i n)) := by
 have := h.set_ i (.int .u8 n)
 unfold bsA at this ⊢
 rw [List.map_set]
 simpa using this
theorem grown_self (w : World) (row : Option Nat) : w.grownBy w row := ⟨rfl,rfl,rfl,Nat.le_refl _,fun _ _ _=>rfl⟩
def isBlank (xs : List Int) (k : Nat) : Bool := (List.range 64).all fun j=>decide (xs.getD (k * 64 + j) 0 = 255)
def wrote (xs ys : List Int) (k : Nat) : Nat → List Int
 | 0=>xs
 | j + 1=>(wrote xs ys k j).set (k * 64 + j) (ys.getD j 0)
theorem wrote_len {xs ys : List Int} {k : Nat} : ∀ j,(wrote xs ys k j).length = xs.length
 | 0=>rfl
 | j + 1=>by rw [wrote,List.length_set,wrote_len j]
set_option maxRecDepth 100000 in
set_option maxHeartbeats 1600000 in
theorem flProgram {F t I tI W c k B cb : Nat} {xs ys : List Int} {w : World} (hF : Blk w F t (flC I W c)) (hI : Blk w I tI (bsA xs)) (hx : xs.length = 1024) (hB : ∀ j,j < 64 → w.cell? ⟨B,j,none⟩ = some (.int .u8 (ys.getD j 0))) (hIB : I ≠ B) (_hIF : I ≠ F) (hk : k < 16) :
  Calls Tryz.prog 171 #[.pointer (some ⟨F,0,none⟩),.int .i64 k,.slice (some ⟨B,0,none⟩) 64 cb] w fun e w'=>(e = .returned (if isBlank xs k then .nilIface else .iface 116 (.int .i64 12))) ∧ Blk w' I tI (bsA (if isBlank xs k then wrote xs ys k 64 else xs)) ∧ w.grownBy w' (some I) := by
 have hbl : ∀ j,j < 64 → isBlank xs k = true → xs.getD (k * 64 + j) 0 = 255 := fun j hj h=>by
  have := List.all_eq_true.1 h j (List.mem_range.2 hj)
  exact of_decide_eq_true this
 have HBL := Lib.hid hbl
 have HX := Lib.hid hx
 have HB := Lib.hid hB
 clear hbl hx hB
 go_enter Tryz.func171,Tryz.ntmps171
 go_wp2_with (go_at_call 242; refine (flAt hF hk).mono ?_; rintro e w1 ⟨rfl,n1,rfl⟩)
 go_loopw [29] (fun i wr=>∃ j : Nat,i = .int .i64 j ∧ j ≤ 64 ∧ Hid (∀ m,m < j → xs.getD (k * 64 + m) 0 = 255) ∧ wr = w.drewN n1) (fun i _=>64 - (intOf i).toNat)
 case atStart=>exact ⟨0,rfl,by omega,(fun m hm=>by omega),rfl⟩
 case round =>
 obtain ⟨j,rfl,hj,hall,rfl⟩ := hrel
 by_cases hlt : j < 64
 ·have c0 := bs_cell (hI.drewN n1) (i := k * 64 + j) (by have := HX.out; omega)
  by_cases hx : xs.getD (k * 64 + j) 0 = 255
  ·rw [hx] at c0
   go_wp2
   go_roundw
   case rel=>exact ⟨j + 1,rfl,by omega,(fun m hm=>by
    rcases Nat.lt_or_ge m j with h | h
    ·exact hall.out m h
    ·obtain rfl : m = j := by omega
     exact hx),(by first | rfl | trivial)⟩
   case measure=>simp [intOf]; omega
  ·have hnb : isBlank xs k = false := by
    cases hb : isBlank xs k with
    | false=>rfl
    | true=>exact absurd (HBL.out j hlt hb) hx
   have hx2 : (xs.getD (k * 64 + j) 0 != 255) = true := by simpa using hx
   generalize xs.getD (k * 64 + j) 0 = x at c0 hx hx2
   go_wp2
   all_goals go_ret
   all_goals exact ⟨(by first | rfl | (rw [hnb]; rfl)),(by first | exact hI.drewN n1 | (rw [hnb]; exact hI.drewN n1)),grown_drewN (grown_self w (some I)) n1⟩
 ·obtain rfl : j = 64 := by omega
  have hb : isBlank xs k = true := List.all_eq_true.2 fun m hm=>decide_eq_true (hall.out m (List.mem_range.1 hm))
  clear hall
  go_wp2_with (go_at_call 240; refine (flCut (hF.drewN n1)).mono ?_; rintro e w2 ⟨rfl,rfl⟩)
  go_loopw [41] (fun i wr=>∃ j : Nat,i = .int .i64 j ∧ j ≤ 64 ∧ Blk wr I tI (bsA (wrote xs ys k j)) ∧ w.grownBy wr (some I)) (fun i _=>64 - (intOf i).toNat)
  case atStart=>exact ⟨0,rfl,by omega,hI.drewN n1,grown_drewN (grown_self w (some I)) n1⟩
  case round =>
  obtain ⟨j,rfl,hj,hIw,hg⟩ := hrel
  by_cases hlt : j < 64
  ·have c0 := hg.cell (HB.out j hlt) (by simp; exact fun h=>hIB h.symm)
   have c1 := bs_cell hIw (i := k * 64 + j) (by rw [wrote_len]; have := HX.out; omega)
   have f1 := hIw.frozen (k * 64 + j)
   go_wp2
   go_roundw
   case rel=>exact ⟨j + 1,rfl,by omega,bs_set hIw _ _,grown_setCell hg (.inl rfl) _⟩
   case measure=>simp [intOf]; omega
  ·obtain rfl : j = 64 := by omega
   go_wp2
   go_ret
   exact ⟨(by first | rfl | (rw [hb]; rfl)),(by first | exact hIw | (rw [hb]; exact hIw)),hg⟩
end Go.Proofs.YtbegodiligmphaaGreatDoor
namespace Go.Proofs.YtbegodiligmphaaGreatDoor.I
structure Ed where
 t : Int
 s : Int
 o : Bool
def edIn (per : Int) (e : Ed) : Bool := decide (0 ≤ e.t) && decide (e.t < per) && decide (0 ≤ e.s) && decide (e.s ≤ 5)
def edLt (a b : Ed) : Bool := decide (a.t < b.t) || (decide (a.t = b.t) && decide (a.s < b.s))
def good (per : Int) (es : List Ed) (i : Nat) : Bool :=
 match es[i]? with
 | none=>true
 | some e=>edIn per e && (match i with
  | 0=>true
  | j + 1=>match es[j]? with
   | none=>true
   | some q=>edLt q e)
def shape (per : Int) (es : List Ed) : Bool := (List.range es.length).all (good per es)
def perOk (per : Int) : Bool := decide (64 ≤ per) && decide (per ≤ 4096)
def step (on : List Bool) (e : Ed) : List Bool := on.set e.s.toNat e.o
end Go.Proofs.YtbegodiligmphaaGreatDoor.I
namespace Go.Proofs.YtbegodiligmphaaGreatDoor.I
structure Lg where
 s : Int
 j : Int
def wantF (f o t trip : Int) : Int := if trip ≤ t then 0 else if f ≤ t ∧ t < o then 2 else 1
def numb (leg side : Int) : Int := if side = 2 then 2 * leg else 2 * leg + 1
def isOff (x : Lg) (v : Int) : Prop := x.s ≠ 0 ∧ x.s ≠ v
def isOn (dead : Int) (x : Lg) (v : Int) : Prop := x.s = 0 ∧ v ≠ 0 ∧ dead ≤ x.j
instance (x : Lg) (v : Int) : Decidable (isOff x v) := by unfold isOff; infer_instance
instance (dead : Int) (x : Lg) (v : Int) : Decidable (isOn dead x v) := by unfold isOn; infer_instance
def legS (dead : Int) (x : Lg) (v : Int) : Lg := if isOff x v then ⟨0,1⟩ else if isOn dead x v then ⟨v,min (x.j + 1) 4096⟩ else ⟨x.s,min (x.j + 1) 4096⟩
def legE (dead t leg : Int) (x : Lg) (v : Int) : List Ed := if isOff x v then [⟨t,numb leg x.s,false⟩] else if isOn dead x v then [⟨t,numb leg v,true⟩] else []
def legAt (dead trip f o : Int) (x : Lg) : Nat → Lg
 | 0=>x
 | t + 1=>legS dead (legAt dead trip f o x t) (wantF f o t trip)
structure Rq where
 per : Int
 dead : Int
 trip : Int
 f : Nat → Int
 o : Nat → Int
 x : Nat → Lg
def Rq.want (r : Rq) (leg t : Nat) : Int := wantF (r.f leg) (r.o leg) t r.trip
def Rq.at_ (r : Rq) (leg t : Nat) : Lg := legAt r.dead r.trip (r.f leg) (r.o leg) (r.x leg) t
def Rq.e (r : Rq) (leg t : Nat) : List Ed := legE r.dead t leg (r.at_ leg t) (r.want leg t)
def Rq.tick (r : Rq) (t : Nat) : List Ed := r.e 0 t ++ r.e 1 t ++ r.e 2 t
def Rq.es (r : Rq) : Nat → List Ed
 | 0=>[]
 | t + 1=>r.es t ++ r.tick t
theorem Rq.at_succ (r : Rq) (leg t : Nat) : r.at_ leg (t + 1) = legS r.dead (r.at_ leg t) (r.want leg t) := rfl
theorem Rq.es_succ (r : Rq) (t : Nat) : r.es (t + 1) = r.es t ++ r.tick t := rfl
structure Lok (x : Lg) : Prop where
 s : x.s = 0 ∨ x.s = 1 ∨ x.s = 2
 j0 : 0 ≤ x.j
 j1 : x.j ≤ 4096
theorem wantF_cases (f o t trip : Int) : wantF f o t trip = 0 ∨ wantF f o t trip = 1 ∨ wantF f o t trip = 2 := by
 unfold wantF; split
 ·exact .inl rfl
 ·split
  ·exact .inr (.inr rfl)
  ·exact .inr (.inl rfl)
theorem Lok.step {dead : Int} {x : Lg} {v : Int} (h : Lok x) (hv : v = 0 ∨ v = 1 ∨ v = 2) : Lok (legS dead x v) := by
 obtain ⟨h1,h2,h3⟩ := h
 unfold legS
 split
 ·exact ⟨.inl rfl,by decide,by decide⟩
 ·split
  ·exact ⟨hv,by show 0 ≤ min _ _; omega,by show min _ _ ≤ _; omega⟩
  ·exact ⟨h1,by show 0 ≤ min _ _; omega,by show min _ _ ≤ _; omega⟩
theorem legE_len (dead t leg : Int) (x : Lg) (v : Int) : (legE dead t leg x v).length ≤ 1 := by
 unfold legE
 split
 ·simp
 ·split <;> simp
theorem Rq.es_len (r : Rq) (t : Nat) : (r.es t).length ≤ 3 * t := by
 induction t with
 | zero=>simp [Rq.es]
 | succ t ih =>
  have h0 := legE_len r.dead t (0 : Nat) (r.at_ 0 t) (r.want 0 t)
  have h1 := legE_len r.dead t (1 : Nat) (r.at_ 1 t) (r.want 1 t)
  have h2 := legE_len r.dead t (2 : Nat) (r.at_ 2 t) (r.want 2 t)
  rw [Rq.es_succ]
  simp only [Rq.tick,Rq.e,List.length_append]
  omega
def legOk (x : Lg) : Bool := decide (0 ≤ x.s) && decide (x.s ≤ 2) && decide (0 ≤ x.j) && decide (x.j ≤ 4096)
def deadOk (d : Int) : Bool := decide (1 ≤ d) && decide (d ≤ 1024)
def rngOk (x0 x1 x2 : Lg) (per dead : Int) : Bool := legOk x0 && legOk x1 && legOk x2 && perOk per && deadOk dead
def shpOk (f o per : Int) : Bool := decide (0 ≤ f) && decide (f ≤ o) && decide (o ≤ per)
def rcode (x0 x1 x2 : Lg) (f0 o0 f1 o1 f2 o2 per dead trip : Int) : Int :=
 if rngOk x0 x1 x2 per dead && (decide (0 ≤ trip) && decide (trip ≤ per)) then (if shpOk f0 o0 per && shpOk f1 o1 per && shpOk f2 o2 per then 0 else 11) else 3
theorem legOk_lok {x : Lg} (h : legOk x = true) : Lok x := by
 simp only [legOk,Bool.and_eq_true,decide_eq_true_eq] at h
 exact ⟨by omega,h.1.2,h.2⟩
end Go.Proofs.YtbegodiligmphaaGreatDoor.I
namespace Go.Proofs.YtbegodiligmphaaGreatDoor.I
open Go.RowKit
def errV (n : Int) : Value := if n = 0 then .nilIface else .iface 116 (.int .i64 n)
theorem errV_ne {n : Int} (h : n ≠ 0) : errV n = .iface 116 (.int .i64 n) := if_neg h
def Ed.row (e : Ed) : List Value := [.int .i64 e.t,.int .i64 e.s,.bool e.o]
end Go.Proofs.YtbegodiligmphaaGreatDoor.I
namespace Go.Proofs.YtbegodiligmphaaGreatDoor.I
open Go.RowKit
theorem hide {p : Prop} (h : p) : Hid p := h
theorem unhide {p : Prop} (h : Hid p) : p := h
theorem ret_cell {P : Program} {fn : Func} {p : Tmp} {ty : TypeId} (h : fn.results = #[.cell p ty]) {tmps : Array Value} {w : World} {a : Addr} {v : Value}
  (hp : tmps.getD p undef = .pointer (some a)) (hl : (loadVar ty a).run P w = .ok v w) : (results fn tmps).run P w = .ok v w := by
 have hp' : tmps[p]?.getD undef = .pointer (some a) := by simpa using hp
 simp only [results,h]
 simp [asAddr,hp',hl]
theorem load_gates {w : World} {g : Nat} {t : TypeId} {a b c d e f x y : Value} (h : Blk w g t #[a,b,c,d,e,f,x,y]) : (loadVar 76 ⟨g,0,none⟩).run Tryz.prog w = .ok (.agg #[a,b,c,d,e,f,x,y]) w := by
 obtain ⟨k0,k1,k2,k3,k4,k5,k6,k7⟩ := h.c8
 simp [go_sem,k0,k1,k2,k3,k4,k5,k6,k7]
end Go.Proofs.YtbegodiligmphaaGreatDoor.I
namespace Go.Proofs.YtbegodiligmphaaGreatDoor.I
open Go.RowKit
theorem within_yes (n lo hi : Int) (h1 : lo ≤ n) (h2 : n ≤ hi) (w : World) : Calls Tryz.prog 182 #[.int .i64 n,.int .i64 lo,.int .i64 hi] w fun e w'=>e = .returned (.bool true) ∧ w = w' := by
 go_enter Tryz.func182,Tryz.ntmps182
 go_wp2
 go_ret
 exact ⟨rfl,rfl⟩
theorem within_no (n lo hi : Int) (h : ¬ (lo ≤ n ∧ n ≤ hi)) (w : World) : Calls Tryz.prog 182 #[.int .i64 n,.int .i64 lo,.int .i64 hi] w fun e w'=>e = .returned (.bool false) ∧ w = w' := by
 by_cases h1 : lo ≤ n
 ·have h2 : hi < n := by omega
  clear h
  go_enter Tryz.func182,Tryz.ntmps182
  go_wp2
  go_ret
  exact ⟨congrArg (fun b=>Ending.returned (.bool b)) (decide_eq_false (by omega)),rfl⟩
 ·clear h
  go_enter Tryz.func182,Tryz.ntmps182
  go_wp2
  go_ret
  exact ⟨rfl,rfl⟩
theorem isPeriod_walk (n : Int) (w : World) : Calls Tryz.prog 183 #[.int .i64 n] w fun e w'=>e = .returned (.bool (perOk n)) ∧ w = w' := by
 by_cases h : 64 ≤ n ∧ n ≤ 4096
 ·have hp : Hid (perOk n = true) := by show _ = _; simp [perOk,h]
  go_enter Tryz.func183,Tryz.ntmps183
  go_wp2_with fail
  refine (within_yes n 64 4096 h.1 h.2 _).mono ?_
  rintro e w' ⟨rfl,rfl⟩
  go_wp2
  go_ret
  exact ⟨by rw [hp.out]; rfl,rfl⟩
 ·have hp : Hid (perOk n = false) := by
   show _ = _
   rw [Bool.eq_false_iff]
   simp only [perOk,ne_eq,Bool.and_eq_true,decide_eq_true_eq]
   omega
  have HH := Lib.hid h
  clear h
  go_enter Tryz.func183,Tryz.ntmps183
  go_wp2_with fail
  refine (within_no n 64 4096 HH.out _).mono ?_
  rintro e w' ⟨rfl,rfl⟩
  go_wp2
  go_ret
  exact ⟨by rw [hp.out]; rfl,rfl⟩
end Go.Proofs.YtbegodiligmphaaGreatDoor.I
namespace Go.Proofs.YtbegodiligmphaaGreatDoor.I
open Go.RowKit
theorem number_walk (leg side : Int) (h0 : 0 ≤ leg) (h2 : leg ≤ 2) (w : World) : Calls Tryz.prog 239 #[.int .i64 leg,.int .i64 side] w fun e w'=>e = .returned (.int .i64 (numb leg side)) ∧ w = w' := by
 by_cases h : side = 2
 ·subst h
  have hn : Hid (numb leg 2 = 2 * leg) := if_pos rfl
  go_enter Tryz.func239,Tryz.ntmps239
  go_wp2
  go_ret
  exact ⟨by rw [hn.out]; rfl,rfl⟩
 ·have hn : Hid (numb leg side = 2 * leg + 1) := if_neg h
  go_enter Tryz.func239,Tryz.ntmps239
  go_wp2
  go_ret
  exact ⟨by rw [hn.out]; rfl,rfl⟩
theorem wanted_walk (f o t trip : Int) (w : World) : Calls Tryz.prog 238 #[.agg #[.int .i64 f,.int .i64 o],.int .i64 t,.int .i64 trip] w fun e w'=>e = .returned (.int .i64 (wantF f o t trip)) ∧ Below w.heap.size w w' := by
 have hb := (Below.refl w.heap.size w).alloc (Nat.le_refl _) (.cells #[.int .i64 f,.int .i64 o] 313)
 by_cases h : trip ≤ t
 ·have hn : Hid (wantF f o t trip = 0) := if_pos h
  go_enter Tryz.func238,Tryz.ntmps238
  go_wp2
  go_ret
  exact ⟨by rw [hn.out]; rfl,hb⟩
 ·by_cases h1 : f ≤ t
  ·by_cases h2 : t < o
   ·have hn : Hid (wantF f o t trip = 2) := (if_neg h).trans (if_pos ⟨h1,h2⟩)
    go_enter Tryz.func238,Tryz.ntmps238
    go_wp2
    go_ret
    exact ⟨by rw [hn.out]; rfl,hb⟩
   ·have hn : Hid (wantF f o t trip = 1) := (if_neg h).trans (if_neg (by omega))
    go_enter Tryz.func238,Tryz.ntmps238
    go_wp2
    go_ret
    exact ⟨by rw [hn.out]; rfl,hb⟩
  ·have hn : Hid (wantF f o t trip = 1) := (if_neg h).trans (if_neg (by omega))
   go_enter Tryz.func238,Tryz.ntmps238
   go_wp2
   go_ret
   exact ⟨by rw [hn.out]; rfl,hb⟩
theorem idx48_0 (a b c d e f : Value) (w : World) : (Instr.index 128 (.agg #[a,b,c,d,e,f]) (.int .i64 0)).run Tryz.prog w = .ok (.agg #[a,b]) w := by kernel_rfl
theorem idx48_1 (a b c d e f : Value) (w : World) : (Instr.index 128 (.agg #[a,b,c,d,e,f]) (.int .i64 1)).run Tryz.prog w = .ok (.agg #[c,d]) w := by kernel_rfl
theorem idx48_2 (a b c d e f : Value) (w : World) : (Instr.index 128 (.agg #[a,b,c,d,e,f]) (.int .i64 2)).run Tryz.prog w = .ok (.agg #[e,f]) w := by kernel_rfl
theorem idx51_0 (a b c d e f : Value) (w : World) : (Instr.index 314 (.agg #[a,b,c,d,e,f]) (.int .i64 0)).run Tryz.prog w = .ok (.agg #[a,b]) w := by kernel_rfl
theorem idx51_1 (a b c d e f : Value) (w : World) : (Instr.index 314 (.agg #[a,b,c,d,e,f]) (.int .i64 1)).run Tryz.prog w = .ok (.agg #[c,d]) w := by kernel_rfl
theorem idx51_2 (a b c d e f : Value) (w : World) : (Instr.index 314 (.agg #[a,b,c,d,e,f]) (.int .i64 2)).run Tryz.prog w = .ok (.agg #[e,f]) w := by kernel_rfl
theorem load_six {w : World} {g : Nat} {t : TypeId} {a b c d e f : Value} (h : Blk w g t #[a,b,c,d,e,f]) : (loadVar 73 ⟨g,0,none⟩).run Tryz.prog w = .ok (.agg #[a,b,c,d,e,f]) w := by
 obtain ⟨k0,k1,k2,k3,k4,k5⟩ := h.c6
 simp [go_sem,k0,k1,k2,k3,k4,k5]
theorem load_legs {w : World} {g : Nat} {t : TypeId} {a b c d e f : Value} (h : Blk w g t #[a,b,c,d,e,f]) : (loadVar 128 ⟨g,0,none⟩).run Tryz.prog w = .ok (.agg #[a,b,c,d,e,f]) w := by
 obtain ⟨k0,k1,k2,k3,k4,k5⟩ := h.c6
 simp [go_sem,k0,k1,k2,k3,k4,k5]
end Go.Proofs.YtbegodiligmphaaGreatDoor.I
namespace Go.Proofs.YtbegodiligmphaaGreatDoor.I
open Go.RowKit
theorem legOk_no_s {s j : Int} (h : ¬ (0 ≤ s ∧ s ≤ 2)) : legOk ⟨s,j⟩ = false := by
 rw [Bool.eq_false_iff]; simp only [legOk,ne_eq,Bool.and_eq_true,decide_eq_true_eq]; omega
theorem legOk_no_j {s j : Int} (h : ¬ (0 ≤ j ∧ j ≤ 4096)) : legOk ⟨s,j⟩ = false := by
 rw [Bool.eq_false_iff]; simp only [legOk,ne_eq,Bool.and_eq_true,decide_eq_true_eq]; omega
theorem legOk_yes {s j : Int} (h : 0 ≤ s ∧ s ≤ 2) (h' : 0 ≤ j ∧ j ≤ 4096) : legOk ⟨s,j⟩ = true := by
 simp only [legOk,Bool.and_eq_true,decide_eq_true_eq]; omega
set_option maxRecDepth 100000 in
set_option maxHeartbeats 1600000 in
theorem ranges_walk (s0 j0 s1 j1 s2 j2 per dead : Int) (w : World) : Calls Tryz.prog 115 #[.agg #[.int .i64 s0,.int .i64 j0,.int .i64 s1,.int .i64 j1,.int .i64 s2,.int .i64 j2],.int .i64 per,.int .i64 dead] w fun e w'=>e = .returned (.bool (rngOk ⟨s0,j0⟩ ⟨s1,j1⟩ ⟨s2,j2⟩ per dead)) ∧ Below w.heap.size w w' := by
 have hb := (Below.refl w.heap.size w).alloc (Nat.le_refl _) (.cells #[.int .i64 s0,.int .i64 j0,.int .i64 s1,.int .i64 j1,.int .i64 s2,.int .i64 j2] 128)
 have ix0 := idx48_0 (.int .i64 s0) (.int .i64 j0) (.int .i64 s1) (.int .i64 j1) (.int .i64 s2) (.int .i64 j2)
 have ix1 := idx48_1 (.int .i64 s0) (.int .i64 j0) (.int .i64 s1) (.int .i64 j1) (.int .i64 s2) (.int .i64 j2)
 have ix2 := idx48_2 (.int .i64 s0) (.int .i64 j0) (.int .i64 s1) (.int .i64 j1) (.int .i64 s2) (.int .i64 j2)
 go_enter Tryz.func115,Tryz.ntmps115
 go_wp2
 go_loopw [10] (fun i wr=>(i = .int .i64 0 ∨ (i = .int .i64 1 ∧ Hid (legOk ⟨s0,j0⟩ = true)) ∨ (i = .int .i64 2 ∧ Hid (legOk ⟨s0,j0⟩ = true ∧ legOk ⟨s1,j1⟩ = true)) ∨ (i = .int .i64 3 ∧ Hid (legOk ⟨s0,j0⟩ = true ∧ legOk ⟨s1,j1⟩ = true ∧ legOk ⟨s2,j2⟩ = true))) ∧ Below w.heap.size w wr) (fun i _=>3 - (intOf i).toNat)
 case atStart=>exact ⟨.inl rfl,hb⟩
 case round =>
 clear hb
 obtain ⟨hd,hb⟩ := hrel
 have hsz := hb.size
 rcases hd with rfl | ⟨rfl,hA⟩ | ⟨rfl,hA⟩ | ⟨rfl,hA⟩
 ·have hba := hb.alloc hsz (.cells #[.int .i64 s0,.int .i64 j0] 127)
  by_cases hs : 0 ≤ s0 ∧ s0 ≤ 2
  ·have HS := Lib.hid hs
   obtain ⟨hs1,hs2⟩ := hs
   go_wp2_with fail
   refine (within_yes s0 0 2 hs1 hs2 _).mono ?_
   rintro e w' ⟨rfl,rfl⟩
   by_cases hj : 0 ≤ j0 ∧ j0 ≤ 4096
   ·have HJ := Lib.hid hj
    obtain ⟨hj1,hj2⟩ := hj
    go_wp2_with fail
    refine (within_yes j0 0 4096 hj1 hj2 _).mono ?_
    rintro e w' ⟨rfl,rfl⟩
    go_wp2
    go_roundw
    case rel=>exact ⟨.inr (.inl ⟨rfl,legOk_yes HS.out HJ.out⟩),hba⟩
    case measure=>simp [intOf]
   ·have HX := Lib.hid hj
    clear hj
    go_wp2_with fail
    refine (within_no j0 0 4096 HX.out _).mono ?_
    rintro e w' ⟨rfl,rfl⟩
    go_wp2
    go_ret
    exact ⟨by simp [rngOk,legOk_no_j HX.out],hba⟩
  ·have HX := Lib.hid hs
   clear hs
   go_wp2_with fail
   refine (within_no s0 0 2 HX.out _).mono ?_
   rintro e w' ⟨rfl,rfl⟩
   go_wp2
   go_ret
   exact ⟨by simp [rngOk,legOk_no_s HX.out],hba⟩
 ·have hba := hb.alloc hsz (.cells #[.int .i64 s1,.int .i64 j1] 127)
  by_cases hs : 0 ≤ s1 ∧ s1 ≤ 2
  ·have HS := Lib.hid hs
   obtain ⟨hs1,hs2⟩ := hs
   go_wp2_with fail
   refine (within_yes s1 0 2 hs1 hs2 _).mono ?_
   rintro e w' ⟨rfl,rfl⟩
   by_cases hj : 0 ≤ j1 ∧ j1 ≤ 4096
   ·have HJ := Lib.hid hj
    obtain ⟨hj1,hj2⟩ := hj
    go_wp2_with fail
    refine (within_yes j1 0 4096 hj1 hj2 _).mono ?_
    rintro e w' ⟨rfl,rfl⟩
    go_wp2
    go_roundw
    case rel=>exact ⟨.inr (.inr (.inl ⟨rfl,⟨hA.out,legOk_yes HS.out HJ.out⟩⟩)),hba⟩
    case measure=>simp [intOf]
   ·have HX := Lib.hid hj
    clear hj
    go_wp2_with fail
    refine (within_no j1 0 4096 HX.out _).mono ?_
    rintro e w' ⟨rfl,rfl⟩
    go_wp2
    go_ret
    exact ⟨by simp [rngOk,hA.out,legOk_no_j HX.out],hba⟩
  ·have HX := Lib.hid hs
   clear hs
   go_wp2_with fail
   refine (within_no s1 0 2 HX.out _).mono ?_
   rintro e w' ⟨rfl,rfl⟩
   go_wp2
   go_ret
   exact ⟨by simp [rngOk,hA.out,legOk_no_s HX.out],hba⟩
 ·have hba := hb.alloc hsz (.cells #[.int .i64 s2,.int .i64 j2] 127)
  by_cases hs : 0 ≤ s2 ∧ s2 ≤ 2
  ·have HS := Lib.hid hs
   obtain ⟨hs1,hs2⟩ := hs
   go_wp2_with fail
   refine (within_yes s2 0 2 hs1 hs2 _).mono ?_
   rintro e w' ⟨rfl,rfl⟩
   by_cases hj : 0 ≤ j2 ∧ j2 ≤ 4096
   ·have HJ := Lib.hid hj
    obtain ⟨hj1,hj2⟩ := hj
    go_wp2_with fail
    refine (within_yes j2 0 4096 hj1 hj2 _).mono ?_
    rintro e w' ⟨rfl,rfl⟩
    go_wp2
    go_roundw
    case rel=>exact ⟨.inr (.inr (.inr ⟨rfl,⟨hA.out.1,hA.out.2,legOk_yes HS.out HJ.out⟩⟩)),hba⟩
    case measure=>simp [intOf]
   ·have HX := Lib.hid hj
    clear hj
    go_wp2_with fail
    refine (within_no j2 0 4096 HX.out _).mono ?_
    rintro e w' ⟨rfl,rfl⟩
    go_wp2
    go_ret
    exact ⟨by simp [rngOk,hA.out.1,hA.out.2,legOk_no_j HX.out],hba⟩
  ·have HX := Lib.hid hs
   clear hs
   go_wp2_with fail
   refine (within_no s2 0 2 HX.out _).mono ?_
   rintro e w' ⟨rfl,rfl⟩
   go_wp2
   go_ret
   exact ⟨by simp [rngOk,hA.out.1,hA.out.2,legOk_no_s HX.out],hba⟩
 ·go_wp2_with fail
  refine (isPeriod_walk per _).mono ?_
  rintro e w' ⟨rfl,rfl⟩
  obtain ⟨pk,hpk⟩ : ∃ pk,perOk per = pk := ⟨_,rfl⟩
  rw [hpk]
  have HP := Lib.hid hpk
  clear hpk
  cases pk
  ·go_wp2
   go_ret
   exact ⟨by simp [rngOk,HP.out],hb⟩
  ·by_cases hd : 1 ≤ dead ∧ dead ≤ 1024
   ·have HD : Hid (deadOk dead = true) := by show _ = _; simp [deadOk,hd]
    obtain ⟨hd1,hd2⟩ := hd
    go_wp2_with fail
    refine (within_yes dead 1 1024 hd1 hd2 _).mono ?_
    rintro e w' ⟨rfl,rfl⟩
    go_wp2
    go_ret
    exact ⟨by simp [rngOk,HP.out,HD.out,hA.out.1,hA.out.2.1,hA.out.2.2],hb⟩
   ·have HD : Hid (deadOk dead = false) := by show _ = _; rw [Bool.eq_false_iff]; simp only [deadOk,ne_eq,Bool.and_eq_true,decide_eq_true_eq]; omega
    have HX := Lib.hid hd
    clear hd
    go_wp2_with fail
    refine (within_no dead 1 1024 HX.out _).mono ?_
    rintro e w' ⟨rfl,rfl⟩
    go_wp2
    go_ret
    exact ⟨by simp [rngOk,HD.out],hb⟩
set_option maxRecDepth 100000 in
set_option maxHeartbeats 1600000 in
theorem on_walk (s0 j0 s1 j1 s2 j2 : Int) (w : World) : Calls Tryz.prog 116 #[.agg #[.int .i64 s0,.int .i64 j0,.int .i64 s1,.int .i64 j1,.int .i64 s2,.int .i64 j2]] w fun e w'=>e = .returned (.agg #[.bool (s0 == 2),.bool (s0 == 1),.bool (s1 == 2),.bool (s1 == 1),.bool (s2 == 2),.bool (s2 == 1)]) ∧ Below w.heap.size w w' := by
 have ix0 := idx48_0 (.int .i64 s0) (.int .i64 j0) (.int .i64 s1) (.int .i64 j1) (.int .i64 s2) (.int .i64 j2)
 have ix1 := idx48_1 (.int .i64 s0) (.int .i64 j0) (.int .i64 s1) (.int .i64 j1) (.int .i64 s2) (.int .i64 j2)
 have ix2 := idx48_2 (.int .i64 s0) (.int .i64 j0) (.int .i64 s1) (.int .i64 j1) (.int .i64 s2) (.int .i64 j2)
 go_enter Tryz.func116,Tryz.ntmps116
 go_wp2
 go_loopw [7] (fun i wr=>((i = .int .i64 0 ∧ Blk wr (w.heap.size + 1 + 1) 73 #[.bool false,.bool false,.bool false,.bool false,.bool false,.bool false]) ∨ (i = .int .i64 1 ∧ Blk wr (w.heap.size + 1 + 1) 73 #[.bool (s0 == 2),.bool (s0 == 1),.bool false,.bool false,.bool false,.bool false]) ∨ (i = .int .i64 2 ∧ Blk wr (w.heap.size + 1 + 1) 73 #[.bool (s0 == 2),.bool (s0 == 1),.bool (s1 == 2),.bool (s1 == 1),.bool false,.bool false]) ∨ (i = .int .i64 3 ∧ Blk wr (w.heap.size + 1 + 1) 73 #[.bool (s0 == 2),.bool (s0 == 1),.bool (s1 == 2),.bool (s1 == 1),.bool (s2 == 2),.bool (s2 == 1)])) ∧ Blk wr (w.heap.size + 1) 73 #[.bool false,.bool false,.bool false,.bool false,.bool false,.bool false] ∧ Below w.heap.size w wr) (fun i _=>3 - (intOf i).toNat)
 case atStart=>exact ⟨.inl ⟨rfl,Blk.new' (by simp)⟩,(Blk.new' (by simp)).alloc _,(((Below.refl w.heap.size w).alloc (Nat.le_refl _) _).alloc (by simp) _).alloc (by simp <;> omega) _⟩
 case round =>
 obtain ⟨hd,hres,hb⟩ := hrel
 have hsz := hb.size
 have hl2 := hres.lt
 rcases hd with ⟨rfl,hr⟩ | ⟨rfl,hr⟩ | ⟨rfl,hr⟩ | ⟨rfl,hr⟩
 ·obtain ⟨r0,r1,r2,r3,r4,r5⟩ := hr.c6
  have hl3 := hr.lt
  have f0 := hr.frozen 0
  have f1 := hr.frozen 1
  obtain ⟨wo,rfl⟩ : ∃ wo : World,wo = wr := ⟨_,rfl⟩
  go_wp2
  go_region
  all_goals go_wp2
  all_goals go_roundw
  case rel=>exact ⟨.inr (.inl ⟨rfl,((hr.set_ 0 _).set_ 1 _).alloc _⟩),((hres.far (by simp <;> omega) _).far (by simp <;> omega) _).alloc _,(((hb.setCell (by simp <;> omega) _).setCell (by simp <;> omega) _).alloc (by simp <;> omega) _).drew⟩
  case measure=>simp [intOf]
 ·obtain ⟨r0,r1,r2,r3,r4,r5⟩ := hr.c6
  have hl3 := hr.lt
  have f0 := hr.frozen 2
  have f1 := hr.frozen 3
  obtain ⟨wo,rfl⟩ : ∃ wo : World,wo = wr := ⟨_,rfl⟩
  go_wp2
  go_region
  all_goals go_wp2
  all_goals go_roundw
  case rel=>exact ⟨.inr (.inr (.inl ⟨rfl,((hr.set_ 2 _).set_ 3 _).alloc _⟩)),((hres.far (by simp <;> omega) _).far (by simp <;> omega) _).alloc _,(((hb.setCell (by simp <;> omega) _).setCell (by simp <;> omega) _).alloc (by simp <;> omega) _).drew⟩
  case measure=>simp [intOf]
 ·obtain ⟨r0,r1,r2,r3,r4,r5⟩ := hr.c6
  have hl3 := hr.lt
  have f0 := hr.frozen 4
  have f1 := hr.frozen 5
  obtain ⟨wo,rfl⟩ : ∃ wo : World,wo = wr := ⟨_,rfl⟩
  go_wp2
  go_region
  all_goals go_wp2
  all_goals go_roundw
  case rel=>exact ⟨.inr (.inr (.inr (⟨rfl,((hr.set_ 4 _).set_ 5 _).alloc _⟩))),((hres.far (by simp <;> omega) _).far (by simp <;> omega) _).alloc _,(((hb.setCell (by simp <;> omega) _).setCell (by simp <;> omega) _).alloc (by simp <;> omega) _).drew⟩
  case measure=>simp [intOf]
 ·obtain ⟨r0,r1,r2,r3,r4,r5⟩ := hr.c6
  obtain ⟨z0,z1,z2,z3,z4,z5⟩ := hres.c6
  have fz0 := hres.frozen 0
  have fz1 := hres.frozen 1
  have fz2 := hres.frozen 2
  have fz3 := hres.frozen 3
  have fz4 := hres.frozen 4
  have fz5 := hres.frozen 5
  go_wp2
  refine bodyPost_ret (ret_cell rfl rfl (load_six ((((((hres.set_ 0 _).set_ 1 _).set_ 2 _).set_ 3 _).set_ 4 _).set_ 5 _))) rfl ⟨rfl,?_⟩
  exact (((((hb.setCell (by simp <;> omega) _).setCell (by simp <;> omega) _).setCell (by simp <;> omega) _).setCell (by simp <;> omega) _).setCell (by simp <;> omega) _).setCell (by simp <;> omega) _
end Go.Proofs.YtbegodiligmphaaGreatDoor.I
namespace Go.Proofs.YtbegodiligmphaaGreatDoor.I
open Go.RowKit
theorem own_below {w w' : World} {base B : Nat} {e : TypeId} {size : Nat} {v : Value} {n : Nat} {xs : List Value} (h : w.ownsRow base e size v n xs) (hb : Below B w w') (hB : w.heap.size ≤ B) : w'.ownsRow base e size v n xs := by
 refine ⟨h.1,?_⟩
 rcases h.2 with h2 | ⟨g,cap,cur,hv,hg,hh,r⟩
 ·exact .inl h2
 ·exact .inr ⟨g,cap,cur,hv,hg,(hb.block g (Nat.lt_of_lt_of_le (Blk.lt hh) hB)).trans hh,r⟩
def cellsL (x : Nat → Lg) : Array Value := #[.int .i64 (x 0).s,.int .i64 (x 0).j,.int .i64 (x 1).s,.int .i64 (x 1).j,.int .i64 (x 2).s,.int .i64 (x 2).j]
def mixL (m : Nat) (y x : Nat → Lg) : Nat → Lg := fun l=>if l < m then y l else x l
theorem mixL_zero (y x : Nat → Lg) : mixL 0 y x = x := by funext l; simp [mixL]
theorem cellsL_mix3 (y x : Nat → Lg) : cellsL (mixL 3 y x) = cellsL y := rfl
theorem cellsL_s (x : Nat → Lg) {m : Nat} (hm : m < 3) : (cellsL x)[m * 2]? = some (.int .i64 (x m).s) := by
 match m,hm with
 | 0,_=>rfl
 | 1,_=>rfl
 | 2,_=>rfl
theorem cellsL_j (x : Nat → Lg) {m : Nat} (hm : m < 3) : (cellsL x)[m * 2 + 1]? = some (.int .i64 (x m).j) := by
 match m,hm with
 | 0,_=>rfl
 | 1,_=>rfl
 | 2,_=>rfl
theorem mixL_at (m : Nat) (y x : Nat → Lg) : mixL m y x m = x m := by simp [mixL]
theorem cellsL_set_s (y x : Nat → Lg) {m : Nat} (hm : m < 3) (hs : (y m).s = (x m).s) : (cellsL (mixL m y x)).setIfInBounds (m * 2 + 1) (.int .i64 (y m).j) = cellsL (mixL (m + 1) y x) := by
 match m,hm with
 | 0,_=>simp [cellsL,mixL,hs]
 | 1,_=>simp [cellsL,mixL,hs]
 | 2,_=>simp [cellsL,mixL,hs]
theorem cellsL_set (y x : Nat → Lg) {m : Nat} (hm : m < 3) : ((cellsL (mixL m y x)).setIfInBounds (m * 2) (.int .i64 (y m).s)).setIfInBounds (m * 2 + 1) (.int .i64 (y m).j) = cellsL (mixL (m + 1) y x) := by
 match m,hm with
 | 0,_=>simp [cellsL,mixL]
 | 1,_=>simp [cellsL,mixL]
 | 2,_=>simp [cellsL,mixL]
theorem cellsL_set3 (y x : Nat → Lg) {m : Nat} (hm : m < 3) (u : Value) : (((cellsL (mixL m y x)).setIfInBounds (m * 2) (.int .i64 (y m).s)).setIfInBounds (m * 2 + 1) u).setIfInBounds (m * 2 + 1) (.int .i64 (y m).j) = cellsL (mixL (m + 1) y x) := by
 match m,hm with
 | 0,_=>simp [cellsL,mixL]
 | 1,_=>simp [cellsL,mixL]
 | 2,_=>simp [cellsL,mixL]
def cellsP (f o : Nat → Int) : Array Value := #[.int .i64 (f 0),.int .i64 (o 0),.int .i64 (f 1),.int .i64 (o 1),.int .i64 (f 2),.int .i64 (o 2)]
theorem cellsP_f (f o : Nat → Int) {m : Nat} (hm : m < 3) : (cellsP f o)[m * 2]? = some (.int .i64 (f m)) := by
 match m,hm with
 | 0,_=>rfl
 | 1,_=>rfl
 | 2,_=>rfl
theorem cellsP_o (f o : Nat → Int) {m : Nat} (hm : m < 3) : (cellsP f o)[m * 2 + 1]? = some (.int .i64 (o m)) := by
 match m,hm with
 | 0,_=>rfl
 | 1,_=>rfl
 | 2,_=>rfl
def Rq.tk (r : Rq) (t : Nat) : Nat → List Ed
 | 0=>[]
 | m + 1=>r.tk t m ++ r.e m t
theorem Rq.tk3 (r : Rq) (t : Nat) : r.tk t 3 = r.tick t := by simp [Rq.tk,Rq.tick]
theorem Rq.tk_len (r : Rq) (t m : Nat) : (r.tk t m).length ≤ m := by
 induction m with
 | zero=>simp [Rq.tk]
 | succ m ih =>
  have := legE_len r.dead t (m : Nat) (r.at_ m t) (r.want m t)
  simp only [Rq.tk,Rq.e,List.length_append]
  omega
theorem Rq.lok3 {r : Rq} (h : ∀ l,l < 3 → Lok (r.x l)) (l : Nat) (hl : l < 3) (t : Nat) : Lok (r.at_ l t) := by
 induction t with
 | zero=>exact h l hl
 | succ t ih=>exact ih.step (wantF_cases _ _ _ _)
end Go.Proofs.YtbegodiligmphaaGreatDoor.I
namespace Go.Proofs.YtbegodiligmphaaGreatDoor.I
def agree (ks on on' : List Bool) : Prop := ∀ j,on'.getD j false = true → on.getD j false = true ∧ ks.getD j false = false
end Go.Proofs.YtbegodiligmphaaGreatDoor.I
namespace Go.Proofs.YtbegodiligmphaaGreatDoor.I
open Go.RowKit
theorem Tryz.infoEdge : (Tryz.prog.info? 133).map (fun i=>(i.zero,i.size,i.bytes)) = some (some (.agg #[.int .i64 0,.int .i64 0,.bool false]),3,24) := by kernel_rfl
end Go.Proofs.YtbegodiligmphaaGreatDoor.I
namespace Go.Proofs.YtbegodiligmphaaGreatDoor.Sy
open Go
def entsOf (en : List (Nat × Ref)) (n : Nat) : List Ref := (List.range n).map fun i=>(lkpR en i).getD (.c 0)
def entsOk (en : List (Nat × Ref)) (rs : List Ref) : Bool := en.all fun x=>match rs[x.1]? with
 | some r=>r.same x.2
 | none=>false
def again (pat : List SB) (root : Bd) (bs : List SB) : Option Bd :=
 match mtBs obN bs pat root with
 | some d=>if injB d.bl && d.op.isEmpty then some d else none
 | none=>none
theorem ofL_map {rs : List Ref} {E : Nat → Int} (j : Nat) : ofL (rs.map (Ref.val E)) j = (rs.getD j (.c 0)).val E := by
 unfold ofL
 rw [List.getD_eq_getElem?_getD,List.getD_eq_getElem?_getD,List.getElem?_map]
 cases rs[j]? <;> rfl
theorem ents_ok {en : List (Nat × Ref)} {rs : List Ref} (h : entsOk en rs = true) {E : Nat → Int} : ∀ x ∈ en,ofL (rs.map (Ref.val E)) x.1 = x.2.val E := fun x hx=>by
 have := List.all_eq_true.1 h x hx
 split at this
 ·rename_i r hr
  rw [ofL_map,List.getD_eq_getElem?_getD,hr,Option.getD_some,Ref.same_ok this]
 ·cases this
section
variable {O O' : Objs} {ρ : Map} {E : Nat → Int} {w : World}
def bindMap (ρ : Map) (bl : List (Nat × Nat)) : Map := fun i=>(lkp bl i).bind ρ
theorem again_ok {pat bs : List SB} {root d : Bd} (h : again pat root bs = some d) (hM : M O ρ E bs w) {Ef : Nat → Int} (hE : ∀ x ∈ d.en,Ef x.1 = x.2.val E) :
  M O (bindMap ρ d.bl) Ef pat w ∧ Binds ρ (bindMap ρ d.bl) E Ef root.bl [] root.en ∧ (∀ x ∈ d.bl,bindMap ρ d.bl x.1 = ρ x.2) ∧ (∀ x ∈ root.bl,x ∈ d.bl) ∧ root.op = [] ∧
   ∀ b ∈ pat,∃ a ∈ bs,(b.id,a.id) ∈ d.bl ∧ a.cs = [] := by
 unfold again at h
 split at h
 rotate_left
 ·cases h
 rename_i d' hd
 split at h
 rotate_left
 ·cases h
 rename_i hc
 simp only [Bool.and_eq_true,List.isEmpty_iff] at hc
 obtain ⟨hi,ho⟩ := hc
 injection h with h; subst h
 obtain ⟨e,hde,ov,o1,o2,o3⟩ := mtBs_ok hM hd
 obtain ⟨hin0,hin⟩ := mtBs_in hd
 have hop : root.op = [] ∧ e.op = [] := by
  rw [hde] at ho
  simpa [Bd.app] using ho
 have hov : ov = [] := by
  unfold Ov.of at o1
  rw [hop.2] at o1
  simpa using o1
 subst hov
 have hbl : ∀ x ∈ d'.bl,bindMap ρ d'.bl x.1 = ρ x.2 := fun x hx=>by
  obtain ⟨k,hk⟩ := lkp_some (i := x.1) (j := x.2) hx
  have := (injB_ok hi (lkp_mem hk) (show (x.1,x.2) ∈ d'.bl from hx)).1 rfl
  unfold bindMap
  rw [hk,← this]; rfl
 have den : d'.en = root.en ++ e.en := by rw [hde]; rfl
 have dbl : d'.bl = root.bl ++ e.bl := by rw [hde]; rfl
 have hP := o3 (bindMap ρ d'.bl) Ef ⟨fun x hx=>hbl x (by rw [dbl]; exact List.mem_append_right _ hx),fun x hx=>(by cases hx),fun x hx=>hE x (by rw [den]; exact List.mem_append_right _ hx)⟩ hbl
 refine ⟨⟨fun b hb _=>(hP b hb).1,fun b hb b' hb' _ _ hne L L' hL hL'=>?_,fun b hb _ L hL=>?_⟩,⟨fun x hx=>hbl x (hin0 x hx),fun x hx=>(by cases hx),fun x hx=>hE x (by rw [den]; exact List.mem_append_left _ hx)⟩,hbl,hin0,hop.1,fun b hb=>?_⟩
 ·obtain ⟨_,a,a1,a2,_,a4⟩ := hP b hb
  obtain ⟨_,a',a1',a2',_,a4'⟩ := hP b' hb'
  have q := hbl _ a2
  have q' := hbl _ a2'
  simp only at q q'
  exact hM.disj a a1 a' a1' (allC_nil a4) (allC_nil a4') (fun e=>hne ((injB_ok hi a2 a2').2 e)) L L' (q ▸ hL) (q' ▸ hL')
 ·obtain ⟨_,a,a1,a2,_,a4⟩ := hP b hb
  have q := hbl _ a2
  simp only at q
  exact hM.low a a1 (allC_nil a4) L (q ▸ hL)
 ·obtain ⟨_,a,a1,a2,_,a4⟩ := hP b hb
  exact ⟨a,a1,a2,a4⟩
theorem bindMap_none {bl : List (Nat × Nat)} {i : Nat} (h : ∀ x ∈ bl,x.1 ≠ i) : bindMap ρ bl i = none := by
 unfold bindMap
 cases hk : lkp bl i with
 | none=>rfl
 | some k=>exact absurd rfl (h _ (lkp_mem hk))
theorem M.objs {m : List SB} (h : ∀ b ∈ m,b.obj = none) (hM : M O ρ E m w) : M O' ρ E m w := by
 refine ⟨fun b hb hc=>?_,hM.disj,hM.low⟩
 obtain ⟨L,vs,h1,h2,h3⟩ := hM.blk b hb hc
 rw [h b hb] at h3
 refine ⟨L,vs,h1,h2,?_⟩
 rw [h b hb]
 exact h3
theorem M.both {ρa ρb : Map} {m n : List SB} (ha : M O ρa E m w) (hb : M O ρb E n w) (la : Lk ρa ρ) (lb : Lk ρb ρ) (ea : ∀ b ∈ m,ρ b.id = ρa b.id) (eb : ∀ b ∈ n,ρ b.id = ρb b.id)
  (hd : ∀ b ∈ m,∀ c ∈ n,allC E b.cs = true → allC E c.cs = true → ∀ L L',ρa b.id = some L → ρb c.id = some L' → ∀ x,L.own x → ¬ L'.own x) : M O ρ E (m ++ n) w := by
 refine ⟨fun b h hc=>?_,fun b h c h' hbc hcc hne L L' hL hL' x hx hx'=>?_,fun b h hc L hL=>?_⟩
 ·rcases List.mem_append.1 h with h | h
  ·exact (ha.blk b h hc).mono la (ea b h)
  ·exact (hb.blk b h hc).mono lb (eb b h)
 ·rcases List.mem_append.1 h with h | h <;> rcases List.mem_append.1 h' with h' | h'
  ·exact ha.disj b h c h' hbc hcc hne L L' (ea b h ▸ hL) (ea c h' ▸ hL') x hx hx'
  ·exact hd b h c h' hbc hcc L L' (ea b h ▸ hL) (eb c h' ▸ hL') x hx hx'
  ·exact hd c h' b h hcc hbc L' L (ea c h' ▸ hL') (eb b h ▸ hL) x hx' hx
  ·exact hb.disj b h c h' hbc hcc hne L L' (eb b h ▸ hL) (eb c h' ▸ hL') x hx hx'
 ·rcases List.mem_append.1 h with h | h
  ·exact ha.low b h hc L (ea b h ▸ hL)
  ·exact hb.low b h hc L (eb b h ▸ hL)
def lkpI (l : List (Nat × Int)) (i : Nat) : Option Int :=
 match l with
 | []=>none
 | (a,b) :: l=>if Nat.beq a i then some b else lkpI l i
def litR (kn : List (Nat × Int)) : Ref → Ref
 | .c n=>.c n
 | .e i=>match lkpI kn i with
  | some n=>.c n
  | none=>.e i
def litL (kn : List (Nat × Int)) : Leaf → Leaf
 | .int k r=>.int k (litR kn r)
 | .bool r=>.bool (litR kn r)
 | l=>l
def litB (kn : List (Nat × Int)) (b : SB) : SB := { b with cells := b.cells.map (litL kn) }
theorem lkpI_mem : ∀ {l : List (Nat × Int)} {i : Nat} {n : Int},lkpI l i = some n → (i,n) ∈ l
 | [],_,_,h=>by cases h
 | (a,b) :: l,i,n,h=>by
  simp only [lkpI] at h
  split at h
  ·rename_i ha
   injection h with h; subst h
   rw [Nat.eq_of_beq_eq_true ha]; simp
  ·exact List.mem_cons_of_mem _ (lkpI_mem h)
theorem litR_ok {kn : List (Nat × Int)} (h : ∀ p ∈ kn,E p.1 = p.2) : ∀ r : Ref,(litR kn r).val E = r.val E
 | .c _=>rfl
 | .e i=>by
  simp only [litR]
  split
  ·rename_i n hn
   exact (h _ (lkpI_mem hn)).symm
  ·rfl
theorem litL_ok {kn : List (Nat × Int)} (h : ∀ p ∈ kn,E p.1 = p.2) (l : Leaf) {v : Value} (hv : l.sat ρ E v) : (litL kn l).sat ρ E v := by
 cases l with
 | int k r=>simp only [litL,Leaf.sat] at hv ⊢; rw [litR_ok h]; exact hv
 | bool r=>simp only [litL,Leaf.sat] at hv ⊢; rw [litR_ok h]; exact hv
 | _=>exact hv
theorem M.lit {kn : List (Nat × Int)} (h : ∀ p ∈ kn,E p.1 = p.2) {m : List SB} (hM : M O ρ E m w) : M O ρ E (m.map (litB kn)) w := by
 have hs : ∀ {ls : List Leaf} {vs : List Value},sats ρ E ls vs → sats ρ E (ls.map (litL kn)) vs := by
  intro ls
  induction ls with
  | nil=>intro _ _; trivial
  | cons l ls ih =>
   intro vs hv
   cases vs with
   | nil=>exact hv.elim
   | cons v vs=>exact ⟨litL_ok h l hv.1,ih hv.2⟩
 refine ⟨fun b hb hc=>?_,fun b hb b' hb' hc hc' hne L L' hL hL'=>?_,fun b hb hc L hL=>?_⟩
 ·obtain ⟨d,d1,rfl⟩ := List.mem_map.1 hb
  exact (hM.blk d d1 hc).congr rfl rfl fun vs hv=>hs hv
 ·obtain ⟨d,d1,rfl⟩ := List.mem_map.1 hb
  obtain ⟨d',d1',rfl⟩ := List.mem_map.1 hb'
  exact hM.disj d d1 d' d1' hc hc' hne L L' hL hL'
 ·obtain ⟨d,d1,rfl⟩ := List.mem_map.1 hb
  exact hM.low d d1 hc L hL
end
def domOk (dom : List (Nat × Int × Int)) (rs : List Ref) (k : Nat) (dom0 ivs : List (Nat × Int × Int)) : Bool := dom.all fun p=>match rs.getD p.1 (.c 0) with
 | .c n=>decide (p.2.1 ≤ n ∧ n ≤ p.2.2)
 | .e i=>match Nat.blt i k with
  | true=>dom0.any fun q=>Nat.beq q.1 i && decide (p.2.1 ≤ q.2.1 ∧ q.2.2 ≤ p.2.2)
  | false=>decide ((lookIv ivs i).1 ≤ (lookIv ivs i).2 ∧ p.2.1 ≤ (lookIv ivs i).1 ∧ (lookIv ivs i).2 ≤ p.2.2)
theorem clamp_rng {lo hi n : Int} (h : clampI lo hi n = n) (hl : lo ≤ hi) : lo ≤ n ∧ n ≤ hi := by
 unfold clampI at h
 split at h
 ·omega
 ·split at h
  ·assumption
  ·omega
theorem MLit.Holds.dom {O : Objs} {C : Cx} {L : MLit} {d fuel : Nat} {f : FuncId} (H : L.Holds C O d fuel f) {xs : List Int} (hd : InDom L.dom (ofL xs)) {dom : List (Nat × Int × Int)} {rs : List Ref} (h : domOk dom rs L.k L.dom L.iva = true) :
  InDom dom (ofL (rs.map (Ref.val (L.ent C d fuel f xs)))) := fun p hp=>by
 have h1 := List.all_eq_true.1 h p hp
 have e := ofL_map (rs := rs) (E := L.ent C d fuel f xs) p.1
 rw [e]
 split at h1
 ·rename_i n hn
  rw [hn]
  exact of_decide_eq_true h1
 ·rename_i i hi
  rw [hi]
  show _ ≤ L.ent C d fuel f xs i ∧ L.ent C d fuel f xs i ≤ _
  split at h1
  ·rename_i hk
   rw [Nat.blt_eq] at hk
   rw [H.inp xs hd i hk]
   obtain ⟨q,q1,q2⟩ := List.any_eq_true.1 h1
   simp only [Bool.and_eq_true,decide_eq_true_eq] at q2
   have := hd q q1
   rw [Nat.eq_of_beq_eq_true q2.1] at this
   simp only [ofL] at this
   omega
  ·have h2 := of_decide_eq_true h1
   have := clamp_rng (H.iv xs hd i) h2.1
   omega
structure Sh where
 mem : List SB
 k : Nat
 dom : List (Nat × Int × Int)
def root19 : Bd := ⟨[(19,19)],[],[]⟩
def selfR (m : List SB) : Bd := ⟨m.map fun b=>(b.id,b.id),[],[]⟩
def Sh.ok (s : Sh) : Bool := s.mem.all (fun b=>b.cs.isEmpty && Nat.ble 10 b.id) && match again s.mem root19 s.mem with
 | some d=>d.en.all (fun x=>x.2.same (.e x.1) && Nat.blt x.1 s.k) && d.bl.all fun x=>Nat.beq x.1 x.2 && s.mem.any fun b=>Nat.beq b.id x.1
 | none=>false
def tabsOk (tabs after : List SB) : Bool := match again tabs (selfR tabs) after with
 | some d=>d.en.isEmpty && d.bl.all fun x=>Nat.beq x.1 x.2 && Nat.blt x.1 3
 | none=>false
def PackRel (O0 : Objs) (sh : Nat → Sh) (vs : List Value) (L : Loc) (w : World) : Prop :=
 ∃ (c : Nat) (ys : List Int) (ρi : Map),vs = [.int .i64 (codeI ((c : Int) :: ys))] ∧ ys.length = (sh c).k ∧ InDom (sh c).dom (ofL ys) ∧ M O0 ρi (ofL ys) (sh c).mem w ∧
  (∀ i B,ρi i = some B → ∃ b ∈ (sh c).mem,b.id = i) ∧ (∃ R,ρi 19 = some R ∧ L.val = .pointer (some ⟨R.n,0,none⟩)) ∧ ∀ x,L.own x ↔ ∃ i B,ρi i = some B ∧ B.own x
section
variable {O O0 : Objs} {ρ ρ' : Map} {E : Nat → Int} {w w' : World} {sh : Nat → Sh} {tabs : List SB}
theorem M.keep {m : List SB} (h : M O ρ E m w) (hs : w.heap.size ≤ w'.heap.size) (hk : ∀ i L,ρ i = some L → ∀ x,L.own x → w'.heap[x]? = w.heap[x]?) : M O ρ E m w' :=
 ⟨fun b hb hc=>(h.blk b hb hc).keep hs fun L hL x hx=>hk b.id L hL x hx,h.disj,fun b hb hc L hL x hx=>by have := h.low b hb hc L hL x hx; omega⟩
theorem PackRel.keep {vs : List Value} {L : Loc} (h : PackRel O0 sh vs L w) (hs : w.heap.size ≤ w'.heap.size) (hk : ∀ x,L.own x → w'.heap[x]? = w.heap[x]?) : PackRel O0 sh vs L w' := by
 obtain ⟨c,ys,ρi,h1,h2,h3,h4,h5,h6,h7⟩ := h
 exact ⟨c,ys,ρi,h1,h2,h3,h4.keep hs fun i B hB x hx=>hk x ((h7 x).2 ⟨i,B,hB,hx⟩),h5,h6,h7⟩
theorem Sh.cs {s : Sh} (h : s.ok = true) {b : SB} (hb : b ∈ s.mem) : b.cs = [] ∧ 10 ≤ b.id := by
 unfold Sh.ok at h
 rw [Bool.and_eq_true] at h
 have := List.all_eq_true.1 h.1 b hb
 rw [Bool.and_eq_true,List.isEmpty_iff] at this
 exact ⟨this.1,Nat.le_of_ble_eq_true this.2⟩
theorem Sh.same {s : Sh} (h : s.ok = true) {ρi : Map} {Ei Ef : Nat → Int} (hM : M O ρi Ei s.mem w) (_hs : ∀ i B,ρi i = some B → ∃ b ∈ s.mem,b.id = i) (hE : ∀ j,j < s.k → Ef j = Ei j) : M O ρi Ef s.mem w := by
 unfold Sh.ok at h
 rw [Bool.and_eq_true] at h
 obtain ⟨hcs,h⟩ := h
 split at h
 rotate_left
 ·cases h
 rename_i d hd
 rw [Bool.and_eq_true] at h
 obtain ⟨h1,h2⟩ := h
 have hE' : ∀ x ∈ d.en,Ef x.1 = x.2.val Ei := fun x hx=>by
  have := List.all_eq_true.1 h1 x hx
  rw [Bool.and_eq_true,Nat.blt_eq] at this
  rw [Ref.same_ok this.1,hE x.1 this.2]; rfl
 obtain ⟨k1,_,k3,_,_,k6⟩ := again_ok hd hM hE'
 have hbl : ∀ x ∈ d.bl,x.1 = x.2 := fun x hx=>by
  have := List.all_eq_true.1 h2 x hx
  rw [Bool.and_eq_true] at this
  exact Nat.eq_of_beq_eq_true this.1
 refine k1.mono (fun i B hB=>?_) fun b hb=>?_
 ·refine ⟨B,?_,rfl,rfl,rfl⟩
  unfold bindMap at hB
  cases hl : lkp d.bl i with
  | none=>rw [hl] at hB; cases hB
  | some j =>
   rw [hl] at hB
   have := hbl _ (lkp_mem hl)
   simp only at this
   rw [this]
   exact hB
 ·obtain ⟨a,_,a2,_⟩ := k6 b hb
  rw [k3 _ a2]
  exact congrArg ρi (hbl _ a2)
def lowMap (ρ : Map) : Map := fun i=>if i < 3 then ρ i else none
theorem lowMap_some {i : Nat} {B : Loc} (h : lowMap ρ i = some B) : i < 3 ∧ ρ i = some B := by
 unfold lowMap at h
 split at h
 ·rename_i hi; exact ⟨hi,h⟩
 ·cases h
theorem tabsOk_ok {after : List SB} (h : tabsOk tabs after = true) {Ea Ef : Nat → Int} (hM : M O ρ Ea after w) : M O (lowMap ρ) Ef tabs w ∧ ∀ b ∈ tabs,b.id < 3 ∧ ∃ a ∈ after,a.id = b.id ∧ a.cs = [] := by
 unfold tabsOk at h
 split at h
 rotate_left
 ·cases h
 rename_i d hd
 rw [Bool.and_eq_true,List.isEmpty_iff] at h
 obtain ⟨h1,h2⟩ := h
 obtain ⟨k1,_,k3,k4,_,k6⟩ := again_ok (Ef := Ef) hd hM (fun x hx=>by rw [h1] at hx; cases hx)
 have hbl : ∀ x ∈ d.bl,x.1 = x.2 ∧ x.1 < 3 := fun x hx=>by
  have := List.all_eq_true.1 h2 x hx
  rw [Bool.and_eq_true,Nat.blt_eq] at this
  exact ⟨Nat.eq_of_beq_eq_true this.1,this.2⟩
 refine ⟨k1.mono (fun i B hB=>⟨B,?_,rfl,rfl,rfl⟩) fun b hb=>?_,fun b hb=>?_⟩
 ·unfold bindMap at hB
  cases hl : lkp d.bl i with
  | none=>rw [hl] at hB; cases hB
  | some j =>
   rw [hl] at hB
   have := hbl _ (lkp_mem hl)
   simp only at this
   unfold lowMap
   rw [if_pos this.2,this.1]; exact hB
 ·obtain ⟨a,_,a2,_⟩ := k6 b hb
  rw [k3 _ a2]
  have := hbl _ a2
  simp only at this
  unfold lowMap
  rw [if_pos this.2]
  exact congrArg ρ this.1
 ·obtain ⟨a,a1,a2,a4⟩ := k6 b hb
  have := hbl _ a2
  exact ⟨this.2,a,a1,this.1.symm,a4⟩
def inMap (ρ ρi : Map) : Map := fun i=>if i < 3 then ρ i else ρi i
def objMem (q : Nat) (tabs : List SB) : List SB := ⟨3,[],[.int .i64 (.e q)],some 1⟩ :: tabs
theorem pack_open (hO : ∀ vs L w,O.rel 1 vs L w → PackRel O0 sh vs L w) (hsh : ∀ c,(sh c).ok = true) (hno : ∀ b ∈ tabs,b.obj = none ∧ b.cs = []) (htab : tabsOk tabs tabs = true) {q : Nat} (hM : M O ρ E (objMem q tabs) w) {L : Loc} (hL : ρ 3 = some L) :
  ∃ (c : Nat) (ys : List Int) (ρi : Map),E q = codeI ((c : Int) :: ys) ∧ ys.length = (sh c).k ∧ InDom (sh c).dom (ofL ys) ∧ (∀ i B,ρi i = some B → 10 ≤ i ∧ ∃ b ∈ (sh c).mem,b.id = i) ∧
   (∃ R,ρi 19 = some R ∧ L.val = .pointer (some ⟨R.n,0,none⟩)) ∧ (∀ x,L.own x ↔ ∃ i B,ρi i = some B ∧ B.own x) ∧
   ∀ E2 : Nat → Int,(∀ j,j < (sh c).k → E2 j = ofL ys j) → ∀ kn : List (Nat × Int),(∀ p ∈ kn,E2 p.1 = p.2) → M O0 (inMap ρ ρi) E2 ((sh c).mem.map (litB kn) ++ tabs) w := by
 obtain ⟨L',vs,h1,h2,h3⟩ := hM.blk ⟨3,[],[.int .i64 (.e q)],some 1⟩ (by simp [objMem]) rfl
 simp only at h1
 obtain rfl : L = L' := by rw [hL] at h1; injection h1
 have h3 := hO _ _ _ (show O.rel 1 vs L w by simpa [Objs.re] using h3)
 obtain ⟨c,ys,ρi,p1,p2,p3,p4,p5,p6,p7⟩ := h3
 have hq : E q = codeI ((c : Int) :: ys) := by
  subst p1
  have := h2.1
  simp only [Leaf.sat,Ref.val,Value.int.injEq,true_and] at this
  exact this.symm
 have hsup : ∀ i B,ρi i = some B → 10 ≤ i ∧ ∃ b ∈ (sh c).mem,b.id = i := fun i B hB=>by
  obtain ⟨b,hb,e⟩ := p5 i B hB
  exact ⟨by rw [← e]; exact (Sh.cs (hsh c) hb).2,b,hb,e⟩
 refine ⟨c,ys,ρi,hq,p2,p3,hsup,p6,p7,fun E2 hE2 kn hkn=>?_⟩
 have ht : M O ρ E tabs w := hM.sub fun b hb=>List.mem_cons_of_mem _ hb
 obtain ⟨k1,k2⟩ := tabsOk_ok (Ef := E2) htab ht
 refine M.both ((Sh.same (hsh c) p4 p5 hE2).lit hkn) (k1.objs fun b hb=>(hno b hb).1) (fun i B hB=>⟨B,?_,rfl,rfl,rfl⟩) (fun i B hB=>⟨B,?_,rfl,rfl,rfl⟩) (fun b hb=>?_) (fun b hb=>?_) fun b hb b' hb' hc hc' B B' hB hB' x hx hx'=>?_
 ·have := (hsup i B hB).1
  unfold inMap; rw [if_neg (by omega)]; exact hB
 ·unfold lowMap at hB
  unfold inMap
  split at hB
  ·rename_i hi; rw [if_pos hi]; exact hB
  ·cases hB
 ·obtain ⟨d,hd,rfl⟩ := List.mem_map.1 hb
  have := (Sh.cs (hsh c) hd).2
  unfold inMap
  rw [if_neg (by show ¬ d.id < 3; omega)]
 ·unfold inMap lowMap; rw [if_pos (k2 b hb).1,if_pos (k2 b hb).1]
 ·obtain ⟨d,hd,rfl⟩ := List.mem_map.1 hb
  have hL3 : L.own x := (p7 x).2 ⟨_,B,hB,hx⟩
  have h3 := (k2 b' hb').1
  have hne : (3 : Nat) ≠ b'.id := by omega
  have hB2 : ρ b'.id = some B' := by unfold lowMap at hB'; rw [if_pos h3] at hB'; exact hB'
  exact hM.disj ⟨3,[],[.int .i64 (.e q)],some 1⟩ (by simp [objMem]) b' (List.mem_cons_of_mem _ hb') rfl (allC_nil (hno b' hb').2) hne L B' hL hB2 x hL3 hx'
def shapeIn (s : Sh) (after : List SB) : Option (List Ref) := match again s.mem root19 after with
 | some d=>if entsOk d.en (entsOf d.en s.k) && d.bl.all (fun x=>Nat.ble 3 x.2 && s.mem.any fun b=>Nat.beq b.id x.1) then some (entsOf d.en s.k) else none
 | none=>none
def outMap (ρ ρ' : Map) (L : Loc) : Map := fun i=>if i < 3 then ρ' i else if i = 3 then some L else ρ i
theorem pack_close (hO : ∀ vs L w,PackRel O0 sh vs L w → O.rel 1 vs L w) (hno : ∀ b ∈ tabs,b.obj = none ∧ b.cs = []) (hids : ∀ i,i < 3 → ∃ b ∈ tabs,b.id = i) {q q' nt nt' : Nat} {L : Loc} (hL : ρ 3 = some L) {ρi : Map}
  (_hsup : ∀ i B,ρi i = some B → 10 ≤ i ∧ i < nt) (hroot : ∃ R,ρi 19 = some R ∧ L.val = .pointer (some ⟨R.n,0,none⟩)) (hown : ∀ x,L.own x ↔ ∃ i B,ρi i = some B ∧ B.own x)
  {mem after : List SB} (hmem : ∀ b ∈ mem,b.id < 3 → b ∈ tabs) {E' Ef : Nat → Int} (hE : Ext (inMap ρ ρi) ρ' ⟨mem,nt⟩ ⟨after,nt'⟩ w w') (hM : M O0 ρ' E' after w') {c : Nat} {rs : List Ref} (hsi : shapeIn (sh c) after = some rs) (htab : tabsOk tabs after = true)
  (hdom : InDom (sh c).dom (ofL (rs.map (Ref.val E')))) (hq : Ef q' = codeI ((c : Int) :: rs.map (Ref.val E'))) (_hcs : ∀ b ∈ (sh c).mem,b.cs = []) :
  ∃ L',M O (outMap ρ ρ' L') Ef (objMem q' tabs) w' ∧ Ext ρ (outMap ρ ρ' L') ⟨objMem q tabs,4⟩ ⟨objMem q' tabs,4⟩ w w' ∧ ∀ j B,3 ≤ j → ρ' j = some B → (∀ d,again (sh c).mem root19 after = some d → ∀ x ∈ d.bl,x.2 ≠ j) → (∃ a ∈ after,a.id = j ∧ a.cs = []) → ∀ x,B.own x → ¬ L'.own x := by
 unfold shapeIn at hsi
 split at hsi
 rotate_left
 ·cases hsi
 rename_i d hd
 split at hsi
 rotate_left
 ·cases hsi
 rename_i hc
 injection hsi with hrs
 rw [Bool.and_eq_true] at hc
 obtain ⟨he,hb⟩ := hc
 rw [hrs] at he
 have hbl : ∀ x ∈ d.bl,3 ≤ x.2 ∧ ∃ b ∈ (sh c).mem,b.id = x.1 := fun x hx=>by
  have := List.all_eq_true.1 hb x hx
  rw [Bool.and_eq_true,List.any_eq_true] at this
  obtain ⟨h1,b,h2,h3⟩ := this
  exact ⟨Nat.le_of_ble_eq_true h1,b,h2,Nat.eq_of_beq_eq_true h3⟩
 obtain ⟨k1,_,k3,k4,_,k6⟩ := again_ok hd hM (ents_ok (E := E') he)
 have hbm : ∀ i B,bindMap ρ' d.bl i = some B → ∃ j,(i,j) ∈ d.bl ∧ ρ' j = some B := fun i B hB=>by
  unfold bindMap at hB
  cases hl : lkp d.bl i with
  | none=>rw [hl] at hB; cases hB
  | some j =>
   rw [hl] at hB
   exact ⟨j,lkp_mem hl,hB⟩
 obtain ⟨R,hR,hv⟩ := hroot
 have hR0 : inMap ρ ρi 19 = some R := by unfold inMap; rw [if_neg (by omega)]; exact hR
 obtain ⟨R',hR',r1,_,_⟩ := hE.le _ _ hR0
 obtain ⟨t1,t2⟩ := tabsOk_ok (Ef := Ef) htab hM
 let L' : Loc := ⟨L.n,L.tot,fun x=>∃ i B,bindMap ρ' d.bl i = some B ∧ B.own x,L.val⟩
 have hLr : PackRel O0 sh [.int .i64 (Ef q')] L' w' := by
  refine ⟨c,rs.map (Ref.val E'),bindMap ρ' d.bl,by rw [hq],by rw [← hrs]; simp [entsOf],hdom,k1,fun i B hB=>?_,⟨R',?_,?_⟩,fun x=>Iff.rfl⟩
  ·obtain ⟨j,h1,_⟩ := hbm i B hB
   exact (hbl _ h1).2
  ·rw [k3 (19,19) (k4 _ (by simp [root19]))]
   exact hR'
  ·show L.val = _
   rw [hv,r1]
 have hown' : ∀ x,L'.own x → ∃ j B,3 ≤ j ∧ (∃ i,(i,j) ∈ d.bl) ∧ ρ' j = some B ∧ B.own x := fun x ⟨i,B,hB,hx⟩=>by
  obtain ⟨j,h1,h2⟩ := hbm i B hB
  exact ⟨j,B,(hbl _ h1).1,⟨i,h1⟩,h2,hx⟩
 have hin : ∀ j,(∃ i,(i,j) ∈ d.bl) → ∃ a ∈ after,a.id = j ∧ a.cs = [] := fun j ⟨i,hi⟩=>by
  obtain ⟨b,hb1,hb2⟩ := (hbl _ hi).2
  obtain ⟨a,a1,a2,a3⟩ := k6 b hb1
  refine ⟨a,a1,?_,a3⟩
  have hinj : injB d.bl = true := by
   unfold again at hd
   split at hd
   ·split at hd
    ·rename_i hh
     injection hd with hd
     rw [Bool.and_eq_true] at hh
     rw [← hd]; exact hh.1
    ·cases hd
   ·cases hd
  exact (injB_ok hinj a2 hi).1 hb2
 have hfar : ∀ j B,ρ' j = some B → (∀ x ∈ d.bl,x.2 ≠ j) → (∃ a ∈ after,a.id = j ∧ a.cs = []) → ∀ x,B.own x → ¬ L'.own x := fun j B hB hj ⟨a,a1,a2,a3⟩ x hx hx'=>by
  obtain ⟨j2,B2,_,hi,h2,h3⟩ := hown' x hx'
  obtain ⟨a',b1,b2,b3⟩ := hin j2 hi
  obtain ⟨i,hi⟩ := hi
  exact hM.disj a a1 a' b1 (allC_nil a3) (allC_nil b3) (by rw [a2,b2]; exact fun e=>hj _ hi e.symm) B B2 (by rw [a2]; exact hB) (by rw [b2]; exact h2) x hx h3
 have holds : ∀ i B,3 ≤ i → inMap ρ ρi i = some B → ∀ x,B.own x → L.own x := fun i B hi hB x hx=>by
  unfold inMap at hB
  rw [if_neg (by omega)] at hB
  exact (hown x).2 ⟨i,B,hB,hx⟩
 have hnew : ∀ i B,ρ' i = some B → ρ' i ≠ inMap ρ ρi i → ∀ x,B.own x → w.heap.size ≤ x ∨ ∃ b ∈ (objMem q tabs),∃ L0,ρ b.id = some L0 ∧ L0.own x := fun i B hB hne x hx=>by
  rcases hE.new i B hB hne x hx with h | ⟨b,hb1,L0,hb2,hb3⟩
  ·exact .inl h
  ·by_cases hi : b.id < 3
   ·refine .inr ⟨b,List.mem_cons_of_mem _ (hmem b hb1 hi),L0,?_,hb3⟩
    simp only [inMap,if_pos hi] at hb2
    exact hb2
   ·exact .inr ⟨⟨3,[],[.int .i64 (.e q)],some 1⟩,by simp [objMem],L,hL,holds _ _ (by omega) hb2 x hb3⟩
 refine ⟨L',⟨fun b hb hc=>?_,fun b hb b' hb' hc hc' hne B B' hB hB' x hx hx'=>?_,fun b hb hc B hB x hx=>?_⟩,⟨fun i B hB=>?_,hE.size,fun n hn h=>?_,fun i=>?_,fun i B hB hne x hx=>?_,hE.io⟩,fun j B _ hB hj ha=>hfar j B hB (hj d hd) ha⟩
 ·rcases List.mem_cons.1 hb with rfl | hb
  ·refine ⟨L',[.int .i64 (Ef q')],by simp [outMap],⟨rfl,trivial⟩,?_⟩
   simp only [Objs.re]
   rw [if_neg (by decide)]
   exact hO _ _ _ hLr
  ·have h3 := (t2 b hb).1
   obtain ⟨B,vs,e1,e2,e3⟩ := t1.blk b hb hc
   rw [(hno b hb).1] at e3
   unfold lowMap at e1
   rw [if_pos h3] at e1
   have hle : Lk (lowMap ρ') (outMap ρ ρ' L') := fun i B hB=>⟨B,(by
    obtain ⟨h1,h2⟩ := lowMap_some hB
    unfold outMap; rw [if_pos h1]; exact h2),rfl,rfl,rfl⟩
   refine ⟨B,vs,by unfold outMap; rw [if_pos h3]; exact e1,sats_mono hle _ e2,?_⟩
   rw [(hno b hb).1]
   exact e3
 ·have tabcase : ∀ b ∈ tabs,∀ B,outMap ρ ρ' L' b.id = some B → lowMap ρ' b.id = some B ∧ ρ' b.id = some B := fun b hb B hB=>by
   have h3 := (t2 b hb).1
   unfold outMap at hB
   rw [if_pos h3] at hB
   exact ⟨by unfold lowMap; rw [if_pos h3]; exact hB,hB⟩
  have three : ∀ B,outMap ρ ρ' L' 3 = some B → B = L' := fun B hB=>by
   simp only [outMap,Nat.lt_irrefl,if_false,if_true,Option.some.injEq] at hB
   exact hB.symm
  rcases List.mem_cons.1 hb with rfl | hb <;> rcases List.mem_cons.1 hb' with rfl | hb'
  ·exact hne rfl
  ·obtain rfl := three B hB
   obtain ⟨_,h2⟩ := tabcase b' hb' B' hB'
   have h3 := (t2 b' hb').1
   exact hfar _ _ h2 (fun x hx e=>by have := (hbl x hx).1; omega) (t2 b' hb').2 x hx' hx
  ·obtain rfl := three B' hB'
   obtain ⟨_,h2⟩ := tabcase b hb B hB
   have h3 := (t2 b hb).1
   exact hfar _ _ h2 (fun x hx e=>by have := (hbl x hx).1; omega) (t2 b hb).2 x hx hx'
  ·exact t1.disj b hb b' hb' hc hc' hne B B' (tabcase b hb B hB).1 (tabcase b' hb' B' hB').1 x hx hx'
 ·rcases List.mem_cons.1 hb with rfl | hb
  ·simp only [outMap,Nat.lt_irrefl,if_false,if_true,Option.some.injEq] at hB
   subst hB
   obtain ⟨j,B,_,hi,h2,h3⟩ := hown' x hx
   obtain ⟨a,a1,a2,a3⟩ := hin j hi
   exact hM.low a a1 (allC_nil a3) B (by rw [a2]; exact h2) x h3
  ·have h3 := (t2 b hb).1
   unfold outMap at hB
   rw [if_pos h3] at hB
   exact t1.low b hb hc B (by unfold lowMap; rw [if_pos h3]; exact hB) x hx
 ·unfold outMap
  split
  ·rename_i hi
   exact hE.le i B (by unfold inMap; rw [if_pos hi]; exact hB)
  ·split
   ·rename_i hi
    subst hi
    rw [hL] at hB
    injection hB with hB
    subst hB
    exact ⟨L',rfl,rfl,rfl,rfl⟩
   ·exact ⟨B,hB,rfl,rfl,rfl⟩
 ·refine hE.keep n hn fun b hb B hB=>?_
  by_cases hi : b.id < 3
  ·simp only [inMap,if_pos hi] at hB
   exact h b (List.mem_cons_of_mem _ (hmem b hb hi)) B hB
  ·exact fun hx=>h ⟨3,[],[.int .i64 (.e q)],some 1⟩ (by simp [objMem]) L hL (holds _ _ (by omega) hB n hx)
 ·by_cases hi : i < 3
  ·obtain ⟨b,hb1,hb2⟩ := hids i hi
   exact .inl (.inr ⟨by show i < 4; omega,b,List.mem_cons_of_mem _ hb1,hb2⟩)
  ·by_cases hi3 : i = 3
   ·exact .inl (.inr ⟨by show i < 4; omega,⟨3,[],[.int .i64 (.e q)],some 1⟩,by simp [objMem],hi3.symm⟩)
   ·exact .inr (by unfold outMap; rw [if_neg hi,if_neg hi3])
 ·by_cases hi : i < 3
  ·simp only [outMap,if_pos hi] at hB hne
   exact hnew i B hB (fun e=>hne (by rw [e]; unfold inMap; rw [if_pos hi])) x hx
  ·by_cases hi3 : i = 3
   ·subst hi3
    simp only [outMap,Nat.lt_irrefl,if_false,if_true,Option.some.injEq] at hB
    subst hB
    obtain ⟨j,B,hj,_,h2,h3⟩ := hown' x hx
    by_cases he2 : ρ' j = inMap ρ ρi j
    ·rw [he2] at h2
     exact .inr ⟨⟨3,[],[.int .i64 (.e q)],some 1⟩,by simp [objMem],L,hL,holds j B hj h2 x h3⟩
    ·exact hnew j B h2 he2 x h3
   ·exact absurd (by unfold outMap; rw [if_neg hi,if_neg hi3]) hne
end
theorem Ref.same_refl (r : Ref) : r.same r = true := by cases r <;> simp [Ref.same,Nat.beq_refl]
theorem Leaf.same_refl : ∀ l : Leaf,l.same l = true := by
 intro l
 induction l with
 | mix c a b iha ihb=>simp only [Leaf.same,Ref.same_refl,iha,ihb]
 | int k r=>simp only [Leaf.same,Ref.same_refl,Nat.beq_refl]
 | bool r=>simp only [Leaf.same,Ref.same_refl]
 | ptr i o=>simp only [Leaf.same,Nat.beq_refl]
 | junk=>rfl
 | nilI=>rfl
 | _=>simp [Leaf.same]
theorem sames_refl : ∀ l : List Leaf,sames l l = true
 | []=>rfl
 | x :: xs=>by simp only [sames,Leaf.same_refl,sames_refl xs]
theorem SA.same_refl (x : SA) : x.same x = true := by cases x <;> simp [SA.same,Leaf.same_refl,sames_refl]
theorem SV.same_refl (x : SV) : x.same x = true := by cases x <;> simp [SV.same,SA.same_refl]
theorem sameCs_refl : ∀ l : List (Ref × Bool),sameCs l l = true
 | []=>rfl
 | (r,y) :: l=>by simp [sameCs,Ref.same_refl,sameCs_refl l]
theorem SB.sameN_refl (b : SB) : b.sameN b = true := by simp [SB.sameN,Nat.beq_refl,sames_refl,sameCs_refl]
theorem sameBs_refl : ∀ l : List SB,sameBs l l = true
 | []=>rfl
 | b :: l=>by simp [sameBs,Nat.beq_refl,SB.sameN_refl,sameBs_refl l]
def ivsOf (t : Tr) (rs : List Ref) : List (Nat × Int × Int) := rs.filterMap fun r=>match r with
 | .e i=>(Tr.get fu t i).map fun p=>(i,p)
 | .c _=>none
def MLit.full (B : MLit) (r : SV × Mem × Gl) (iv : List (Nat × Int × Int)) : MLit := { B with out := r.1,nw := r.2.1.bs,dif := [],gone := B.mem.map (·.id),nt' := r.2.1.nb,ivs := iv,ivx := [] }
theorem patch_gone {l : List Nat} : ∀ {m : List SB},(∀ b ∈ m,b.id ∈ l) → patchB [] l m = []
 | [],_=>rfl
 | b :: m,h=>by
  have h1 : l.any (fun i=>Nat.beq i b.id) = true := List.any_eq_true.2 ⟨b.id,h b (by simp),Nat.beq_refl _⟩
  simp only [patchB,h1,if_true]
  exact patch_gone fun b hb=>h b (List.mem_cons_of_mem _ hb)
theorem MLit.full_after {B : MLit} {r : SV × Mem × Gl} {iv : List (Nat × Int × Int)} : (B.full r iv).after = r.2.1.bs := by
 show r.2.1.bs ++ patchB [] (B.mem.map (·.id)) B.mem = r.2.1.bs
 rw [patch_gone fun b hb=>List.mem_map.2 ⟨b,hb,rfl⟩,List.append_nil]
def MLit.auto (B : MLit) (C : Cx) (d fuel : Nat) (f : FuncId) (toq : Sh) (tabs : List SB) (outp : SV → List SB → List Ref → Bool) : Bool :=
 match B.ev C d fuel f with
 | some r =>
  let t := ivDefs (domI B.dom) r.2.2.nd r.2.2.defs
  wfDefs r.2.2.nd r.2.2.defs && oblOkA (domI B.dom) t r.2.2.defs r.2.2.nd r.2.2.obl (.c 0) .nil && descB B.nt B.mem && Nat.ble r.2.1.nb obN && tabsOk tabs r.2.1.bs &&
  match shapeIn toq r.2.1.bs with
  | some rs=>domOk toq.dom rs B.k B.dom (ivsOf t rs) && outp r.1 r.2.1.bs rs
  | none=>false
 | none=>false
def MLit.toR (B : MLit) (C : Cx) (d fuel : Nat) (f : FuncId) (toq : Sh) : List Ref :=
 match B.ev C d fuel f with
 | some r=>(shapeIn toq r.2.1.bs).getD []
 | none=>[]
section
variable {O O0 : Objs} {ρ ρ' : Map} {E : Nat → Int} {w w' : World} {C : Cx} [TyOk C.P C.T] [FnOk C.P C.F]
theorem MLit.auto_ok (hmix : C.P.follows .mixedOrders = true) (hname : ∀ (f : FuncId) (fn : Func),C.P.funcs[f]? = some fn → fn.name ≠ "runtime.NumGoroutine") (hctr : ∀ I X E f c,C.ctr f = some c → CtrOk C O I X E f c)
  {B : MLit} {d fuel : Nat} {f : FuncId} {toq : Sh} {tabs : List SB} {outp : SV → List SB → List Ref → Bool} (h : B.auto C d fuel f toq tabs outp = true) :
  ∃ L : MLit,L.args = B.args ∧ L.mem = B.mem ∧ L.nt = B.nt ∧ L.k = B.k ∧ L.dom = B.dom ∧ L.sup = B.sup ∧ L.Holds C O d fuel f ∧ L.ent C d fuel f = B.ent C d fuel f ∧ shapeIn toq L.after = some (B.toR C d fuel f toq) ∧ tabsOk tabs L.after = true ∧
   outp L.out L.after (B.toR C d fuel f toq) = true ∧ domOk toq.dom (B.toR C d fuel f toq) L.k L.dom L.iva = true := by
 unfold MLit.auto at h
 split at h
 rotate_left
 ·cases h
 rename_i r hev
 simp only [Bool.and_eq_true] at h
 obtain ⟨⟨⟨⟨⟨h1,h2⟩,h3⟩,h4⟩,h5⟩,h6⟩ := h
 split at h6
 rotate_left
 ·cases h6
 rename_i rs hrs
 rw [Bool.and_eq_true] at h6
 have htoR : B.toR C d fuel f toq = rs := by unfold MLit.toR; rw [hev]; simp [hrs]
 let iv := ivsOf (ivDefs (domI B.dom) r.2.2.nd r.2.2.defs) rs
 have hev2 : (B.full r iv).ev C d fuel f = some r := hev
 have hck : (B.full r iv).check C d fuel f = true := by
  unfold MLit.check
  rw [hev2]
  simp only [Bool.and_eq_true]
  refine ⟨⟨⟨⟨⟨⟨⟨⟨SV.same_refl _,?_⟩,Nat.beq_refl _⟩,h1⟩,h2⟩,?_⟩,rfl⟩,h3⟩,h4⟩
  ·rw [MLit.full_after]; exact sameBs_refl _
  ·refine List.all_eq_true.2 fun p hp=>?_
   obtain ⟨q,_,hq⟩ := List.mem_filterMap.1 hp
   cases q with
   | c n=>cases hq
   | e i =>
    simp only [Option.map_eq_some_iff] at hq
    obtain ⟨a,ha,rfl⟩ := hq
    exact decide_eq_true ha
 refine ⟨B.full r iv,rfl,rfl,rfl,rfl,rfl,rfl,MLit.holds hmix hname hctr hck,rfl,?_,?_,?_,?_⟩
 ·rw [MLit.full_after,htoR]; exact hrs
 ·rw [MLit.full_after]; exact h5
 ·rw [MLit.full_after,htoR]; exact h6.2
 ·rw [htoR]; exact h6.1
end
def outOk (n : Int) (i : Nat) : SV → SV → Bool
 | .a (.one .junk),_=>true
 | .tup xs,.tup ys=>Nat.beq xs.length ys.length && xs.all fun x=>match x with
  | .one .junk=>true
  | _=>false
 | .a (.one (.bool (.e j))),.a (.one (.bool (.c m)))=>Nat.beq j i && decide (m = n)
 | _,_=>false
theorem outOk_ok {n : Int} {i : Nat} {o v : SV} (h : outOk n i o v = true) {ρ ρ' : Map} {E E' : Nat → Int} (hE : E' i = n) {u : Value} (hv : v.sat ρ E u) : o.sat ρ' E' u := by
 unfold outOk at h
 split at h
 ·trivial
 ·rename_i xs ys
  rw [Bool.and_eq_true] at h
  obtain ⟨vs,e,hs⟩ := hv
  refine ⟨vs,e,?_⟩
  have hl := Nat.eq_of_beq_eq_true h.1
  have h2 := h.2
  clear h e
  induction xs generalizing ys vs with
  | nil =>
   cases ys with
   | nil=>cases vs with
    | nil=>trivial
    | cons _ _=>exact hs.elim
   | cons _ _=>simp at hl
  | cons x xs ih =>
   cases ys with
   | nil=>simp at hl
   | cons y ys=>cases vs with
    | nil=>exact hs.elim
    | cons u us =>
     simp only [List.all_cons,Bool.and_eq_true] at h2
     refine ⟨?_,ih (ys := ys) (vs := us) hs.2 (by simpa using hl) h2.2⟩
     have h3 := h2.1
     split at h3
     ·trivial
     ·cases h3
 ·rename_i j m
  rw [Bool.and_eq_true] at h
  obtain rfl := Nat.eq_of_beq_eq_true h.1
  obtain rfl := of_decide_eq_true h.2
  show u = .bool (truth (E' j))
  rw [hE]
  exact hv
 ·cases h
structure Wy where
 B : MLit
 ar : List Ref
 toq : Nat
 kn : List (Nat × Int) := []
 o : Int := 0
def Wy.fits (W : Wy) (C : Cx) (d fuel : Nat) (f : FuncId) (ys zs : List Int) : Prop :=
 (∀ p ∈ W.kn,ofL ys p.1 = p.2) ∧ InDom W.B.dom (ofL (ys ++ zs)) ∧ allC (W.B.ent C d fuel f (ys ++ zs)) W.B.sup = true ∧ W.ar.map (Ref.val (ofL (ys ++ zs))) = zs
noncomputable def packF (C : Cx) (d fuel : Nat) (f : FuncId) (sh : Nat → Sh) (ws : Nat → List Wy) (na : Nat) (xs : List Int) : Int := open Classical in
 match decI (xs.getD na 0) with
 | c :: ys=>match (ws c.toNat).find? fun W=>decide (W.fits C d fuel f ys (xs.take na)) with
  | some W=>codeI ((W.toq : Int) :: (W.B.toR C d fuel f (sh W.toq)).map (Ref.val (W.B.ent C d fuel f (ys ++ xs.take na))))
  | none=>0
 | []=>0
noncomputable def packO (C : Cx) (d fuel : Nat) (f : FuncId) (ws : Nat → List Wy) (na : Nat) (xs : List Int) : Int := open Classical in
 match decI (xs.getD na 0) with
 | c :: ys=>match (ws c.toNat).find? fun W=>decide (W.fits C d fuel f ys (xs.take na)) with
  | some W=>W.o
  | none=>0
 | []=>0
def intE (i : Nat) : SV := .a (.one (.int .i64 (.e i)))
noncomputable def packS (C : Cx) (d fuel : Nat) (f : FuncId) (sh : Nat → Sh) (ws : Nat → List Wy) (na : Nat) (dom : List (Nat × Int × Int)) (o : SV) (tabs : List SB) (gl : List Nat) : MS :=
 {args := .a (.one (.opq 3)) :: (List.range na).map intE,mem := objMem na tabs,nt := 4,ob := obN,k := na + 1,dom := dom,out := o,mem' := objMem (na + 1) tabs,nt' := 4,
  F := fun i xs=>if i = na + 2 then packO C d fuel f ws na xs else packF C d fuel f sh ws na xs,iv := fun i=>if i = na + 2 then (0,1) else (1,0),gl := gl }
def Wy.ok (W : Wy) (C : Cx) (d fuel : Nat) (f : FuncId) (sh : Nat → Sh) (c : Nat) (na : Nat) (o : SV) (tabs : List SB) : Bool := Nat.beq W.B.nt 20 && Nat.beq W.B.k ((sh c).k + na) && Nat.beq W.ar.length na && decide (W.o = 0 ∨ W.o = 1) && (W.ar.all fun r=>match r with | .e i=>Nat.blt i W.B.k | .c _=>true) && W.B.auto C d fuel f (sh W.toq) tabs fun v _ _=>outOk W.o (na + 2) o v
section
variable {O O0 : Objs} {C : Cx} [TyOk C.P C.T] [FnOk C.P C.F]
structure PackOk (C : Cx) (O O0 : Objs) (sh : Nat → Sh) (tabs : List SB) (gl : List Nat) : Prop where
 mix : C.P.follows .mixedOrders = true
 name : ∀ (f : FuncId) (fn : Func),C.P.funcs[f]? = some fn → fn.name ≠ "runtime.NumGoroutine"
 ctr : ∀ I X E f c,C.ctr f = some c → CtrOk C O0 I X E f c
 rel : ∀ vs L w,O.rel 1 vs L w ↔ PackRel O0 sh vs L w
 shp : ∀ c,(sh c).ok = true
 top : ∀ c,∀ b ∈ (sh c).mem,b.id < 20
 no : ∀ b ∈ tabs,b.obj = none ∧ b.cs = []
 tab : tabsOk tabs tabs = true
 ids : ∀ i,i < 3 → ∃ b ∈ tabs,b.id = i
 desc : descB 3 tabs = true
 glob : ∀ gl' id,C.glob gl' = some id → id < 3 ∧ id ∈ gl
theorem int_args {E : Nat → Int} {ρ : Map} : ∀ {l : List Nat} {vs : List Value},satVs ρ E (l.map intE) vs → vs = l.map fun i=>.int .i64 (E i)
 | [],[],_=>rfl
 | [],_ :: _,h=>h.elim
 | _ :: _,[],h=>h.elim
 | i :: l,v :: vs,h=>by
  simp only [List.map_cons]
  rw [int_args h.2]
  exact congrArg (· :: _) h.1
theorem args_int {E : Nat → Int} {ρ : Map} : ∀ (l : List Ref),satVs ρ E (l.map fun r=>.a (.one (.int .i64 r))) (l.map fun r=>.int .i64 (r.val E))
 | []=>trivial
 | _ :: l=>⟨rfl,args_int l⟩
theorem packS_ok {sh : Nat → Sh} {tabs : List SB} {gl : List Nat} (K : PackOk C O O0 sh tabs gl) {d fuel : Nat} {f : FuncId} {ws : Nat → List Wy} {na : Nat} {dom : List (Nat × Int × Int)} {o : SV}
  (hargs : ∀ c,∀ W ∈ ws c,W.B.args = .a (.one (.ptr 19 0)) :: W.ar.map (fun r=>.a (.one (.int .i64 r))) ∧ W.B.mem = (sh c).mem.map (litB W.kn) ++ tabs ∧ ∀ p ∈ W.kn,p.1 < (sh c).k) (hok : ∀ c,∀ W ∈ ws c,W.ok C d fuel f sh c na o tabs = true)
  (hall : ∀ c ys sup,ys.length = (sh c).k → InDom (sh c).dom (ofL ys) → sup.length = na → InDom dom (ofL sup) → ∃ W ∈ ws c,W.fits C d fuel f ys sup) (hne : ∃ W,W ∈ ws 0) (hdl' : ∀ p ∈ dom,p.1 < na) :
  ∀ I X E,CtrOk C O I X E f (packS C d fuel f sh ws na dom o tabs gl).ctr := by
 obtain ⟨hdp,hdl⟩ := descB_ok K.desc
 have hWF : WF ⟨objMem na tabs,4⟩ := ⟨List.pairwise_cons.2 ⟨fun b hb=>(by have := hdl b hb; show b.id < 3; omega),hdp⟩,fun b hb=>by
  rcases List.mem_cons.1 hb with rfl | hb
  ·show 3 < 4; omega
  ·have := hdl b hb; show b.id < 4; omega⟩
 have hbody : ∃ fn b,C.P.funcs[f]? = some fn ∧ fn.body = some b := by
  obtain ⟨W,hW⟩ := hne
  have := hok 0 W hW
  unfold Wy.ok at this
  rw [Bool.and_eq_true] at this
  obtain ⟨L,_,_,_,_,_,_,H,_⟩ := MLit.auto_ok K.mix K.name K.ctr this.2
  exact H.body
 refine MS.of (packS C d fuel f sh ws na dom o tabs gl) hbody hWF (Nat.le_refl _) (by show 4 ≤ obN; decide) (fun g id h=>(K.glob g id h).2) (fun b hb=>.inl ?_) fun xs hxl hdom Ef hE1 hE2 ρ vs w hs hG hM hF=>?_
 ·rcases List.mem_cons.1 hb with rfl | hb
  ·exact ⟨_,List.mem_cons_self,rfl⟩
  ·exact ⟨b,List.mem_cons_of_mem _ hb,rfl⟩
 ·change xs.length = na + 1 at hxl
  cases vs with
  | nil=>exact hs.elim
  | cons v0 us =>
  obtain ⟨hs0,hs1⟩ := hs
  obtain ⟨L,hL,hv0,_,_⟩ := hs0
  have hus := int_args hs1
  have hEa : us = (xs.take na).map (fun n=>.int .i64 n) := by
   rw [hus]
   apply List.ext_getElem (by simp; omega)
   intro j h1 h2
   simp only [List.length_map,List.length_range] at h1
   simp only [List.getElem_map,List.getElem_range,List.getElem_take]
   have := hE1 j (by show j < na + 1; omega)
   rw [this,List.getD_eq_getElem?_getD,List.getElem?_eq_getElem (by omega),Option.getD_some]
  obtain ⟨c,ys,ρi,hq,hyl,hyd,hsup,hroot,hown,hopen⟩ := pack_open (fun vs L w=>(K.rel vs L w).1) K.shp K.no K.tab hM hL
  have hzq : Ef na = xs.getD na 0 := hE1 na (by show na < na + 1; omega)
  have hasl : (xs.take na).length = na := by rw [List.length_take]; omega
  have hdas : InDom dom (ofL (xs.take na)) := fun p hp=>by
   have h1 := hdom p hp
   have h2 := hdl' p hp
   have e : ofL (xs.take na) p.1 = ofL xs p.1 := by
    unfold ofL
    rw [List.getD_eq_getElem?_getD,List.getD_eq_getElem?_getD,List.getElem?_take,if_pos h2]
   rw [e]; exact h1
  obtain ⟨W0,hW0,hf0⟩ := hall c ys (xs.take na) hyl hyd hasl hdas
  have hsome : ((ws c).find? fun W=>@decide (W.fits C d fuel f ys (xs.take na)) (Classical.propDecidable _)).isSome = true := by
   rw [List.find?_isSome]
   exact ⟨W0,hW0,@decide_eq_true _ (Classical.propDecidable _) hf0⟩
  obtain ⟨W,hW⟩ := Option.isSome_iff_exists.1 hsome
  have hWm := List.mem_of_find?_eq_some hW
  have hWf : W.fits C d fuel f ys (xs.take na) := by
   have := List.find?_some hW
   simpa using this
  obtain ⟨f0,f1,f2,f3⟩ := hWf
  obtain ⟨a1,a2,a3⟩ := hargs c W hWm
  have hwok := hok c W hWm
  unfold Wy.ok at hwok
  simp only [Bool.and_eq_true] at hwok
  obtain ⟨⟨⟨⟨⟨n1,n2⟩,n3⟩,n5⟩,n6⟩,n4⟩ := hwok
  have n5 := of_decide_eq_true n5
  have n1 := Nat.eq_of_beq_eq_true n1
  have n2 := Nat.eq_of_beq_eq_true n2
  have n3 := Nat.eq_of_beq_eq_true n3
  obtain ⟨B,b1,b2,b3,b4,b5,b6,H,b7,b8,b9,b10,b11⟩ := MLit.auto_ok (O := O0) K.mix K.name K.ctr n4
  have hF2 : packF C d fuel f sh ws na xs = codeI ((W.toq : Int) :: (W.B.toR C d fuel f (sh W.toq)).map (Ref.val (W.B.ent C d fuel f (ys ++ xs.take na)))) := by
   unfold packF
   rw [← hzq,hq,dec_code]
   simp only [Int.toNat_natCast]
   rw [hW]
  have hent : ∀ j,j < (sh c).k → B.ent C d fuel f (ys ++ xs.take na) j = ofL ys j := fun j hj=>by
   rw [H.inp (ys ++ xs.take na) (by rw [b5]; exact f1) j (by omega)]
   unfold ofL
   rw [List.getD_eq_getElem?_getD,List.getD_eq_getElem?_getD,List.getElem?_append_left (by omega)]
  have hMi := hopen (B.ent C d fuel f (ys ++ xs.take na)) hent W.kn (fun p hp=>(hent p.1 (a3 p hp)).trans (f0 p hp))
  rw [← a2,← b2] at hMi
  obtain ⟨R,hR,hRv⟩ := hroot
  have hsati : satVs (inMap ρ ρi) (B.ent C d fuel f (ys ++ xs.take na)) B.args (v0 :: us) := by
   rw [b1,a1]
   refine ⟨⟨R,?_,?_⟩,?_⟩
   ·unfold inMap; rw [if_neg (by omega)]; exact hR
   ·rw [hv0,hRv]
   ·have hus2 : us = W.ar.map fun r=>.int .i64 (r.val (B.ent C d fuel f (ys ++ xs.take na))) := by
     have f4 : W.ar.map (Ref.val (B.ent C d fuel f (ys ++ xs.take na))) = xs.take na := by
      refine Eq.trans (List.map_congr_left fun r hr=>?_) f3
      cases r with
      | c n=>rfl
      | e i =>
       have := List.all_eq_true.1 n6 _ hr
       simp only [Nat.blt_eq] at this
       exact H.inp _ (by rw [b5]; exact f1) i (by rw [b4]; exact this)
     rw [hEa]
     exact (congrArg (List.map fun n=>Value.int .i64 n) f4.symm).trans (List.map_map ..)
    rw [hus2]
    exact args_int W.ar
  have hGi : GlobOk C (inMap ρ ρi) := fun g id hg=>by
   obtain ⟨h3,_⟩ := K.glob g id hg
   obtain ⟨G,g1,g2⟩ := hG g id hg
   exact ⟨G,by unfold inMap; rw [if_pos h3]; exact g1,g2⟩
  have hFi : Fresh (inMap ρ ρi) B.nt B.nt' := fun i h1 _=>by
   rw [b3,n1] at h1
   unfold inMap
   rw [if_neg (by omega)]
   cases hi : ρi i with
   | none=>rfl
   | some Z =>
    obtain ⟨b,hb,e⟩ := (hsup i Z hi).2
    have := K.top c b hb
    omega
  refine Calls.mono (H.run _ (by rw [b5]; exact f1) (by rw [b6,b7]; exact f2) _ _ w hsati hGi hMi hFi) fun e w' he=>?_
  obtain ⟨ρ',u,rfl,k1,k2,k3⟩ := he
  rw [b3,n1] at k3
  have hmem : ∀ b ∈ B.mem,b.id < 3 → b ∈ tabs := fun b hb h3=>by
   rw [b2,a2] at hb
   rcases List.mem_append.1 hb with hb | hb
   ·obtain ⟨b0,hb0,rfl⟩ := List.mem_map.1 hb
    have := (Sh.cs (K.shp c) hb0).2
    simp only [litB] at h3; omega
   ·exact hb
  have hdom' : InDom (sh W.toq).dom (ofL ((W.B.toR C d fuel f (sh W.toq)).map (Ref.val (B.ent C d fuel f (ys ++ xs.take na))))) := H.dom (by rw [b5]; exact f1) b11
  have hq' : Ef (na + 1) = codeI ((W.toq : Int) :: (W.B.toR C d fuel f (sh W.toq)).map (Ref.val (B.ent C d fuel f (ys ++ xs.take na)))) := by
   rw [hE2 (na + 1) (Nat.le_refl _),b7,← hF2]
   simp [clampI,packS]
  have hqo : Ef (na + 2) = W.o := by
   rw [hE2 (na + 2) (by show na + 1 ≤ na + 2; omega)]
   have e : packO C d fuel f ws na xs = W.o := by
    unfold packO
    rw [← hzq,hq,dec_code]
    simp only [Int.toNat_natCast]
    rw [hW]
   simp only [packS,if_true,e]
   unfold clampI
   rw [if_neg (by decide),if_pos (by omega)]
  obtain ⟨L',m1,m2,_⟩ := pack_close (q := na) (Ef := Ef) (fun vs L w=>(K.rel vs L w).2) K.no K.ids hL (fun i Z hi=>⟨(hsup i Z hi).1,by
   obtain ⟨b,hb,e⟩ := (hsup i Z hi).2
   have := K.top c b hb
   omega⟩) ⟨R,hR,hRv⟩ hown hmem k3 k2 b8 b9 hdom' hq' (fun b hb=>(Sh.cs (K.shp W.toq) hb).1)
  exact ⟨_,u,rfl,outOk_ok b10 hqo k1,m1,m2⟩
end
def copyP (s : Sh) (v : SV) (bs : List SB) (rs : List Ref) : Bool := match v with
 | .a (.one (.slu b o n _))=>Nat.ble 20 b && Nat.beq o 0 && Nat.beq n 4 && (rs == (List.range s.k).map .e) && (match again s.mem root19 bs with | some d=>d.bl.all fun p=>!Nat.beq p.2 b | none=>false) && match findB bs b with
  | some x=>sames x.cells [.int .i64 (.e 0),.int .i64 (.e 1),.int .i64 (.e 2),.int .i64 (.e 3)] && x.obj.isNone && x.cs.isEmpty
  | none=>false
 | _=>false
noncomputable def copyF (i : Nat) (xs : List Int) : Int := decI (xs.getD 0 0) |>.getD i 0
def four : List Leaf := [.int .i64 (.e 1),.int .i64 (.e 2),.int .i64 (.e 3),.int .i64 (.e 4)]
noncomputable def copyS (iv : Nat → Int × Int) (tabs : List SB) (gl : List Nat) : MS :=
 {args := [.a (.one (.opq 3))],mem := objMem 0 tabs,nt := 4,ob := obN,k := 1,dom := [],out := .a (.one (.sla 4 0 4)),mem' := ⟨4,[],four,none⟩ :: objMem 0 tabs,nt' := 5,F := fun i xs=>copyF i xs,iv := iv,gl := gl }
section
variable {O O0 : Objs} {C : Cx} [TyOk C.P C.T] [FnOk C.P C.F]
theorem copyS_ok {sh : Nat → Sh} {tabs : List SB} {gl : List Nat} (K : PackOk C O O0 sh tabs gl) {d fuel : Nat} {f : FuncId} {bs : Nat → MLit} {iv : Nat → Int × Int}
  (hargs : ∀ c,(bs c).args = [.a (.one (.ptr 19 0))] ∧ (bs c).mem = (sh c).mem.map (litB []) ++ tabs ∧ (bs c).nt = 20 ∧ (bs c).k = (sh c).k ∧ (bs c).dom = (sh c).dom ∧ (bs c).sup = []) (hok : ∀ c,(bs c).auto C d fuel f (sh c) tabs (copyP (sh c)) = true)
  (hiv : ∀ c j,1 ≤ j → j ≤ 4 → j ≤ (sh c).k ∧ (j - 1,iv j) ∈ (sh c).dom) :
  ∀ I X E,CtrOk C O I X E f (copyS iv tabs gl).ctr := by
 obtain ⟨hdp,hdl⟩ := descB_ok K.desc
 have hWF : WF ⟨objMem 0 tabs,4⟩ := ⟨List.pairwise_cons.2 ⟨fun b hb=>(by have := hdl b hb; show b.id < 3; omega),hdp⟩,fun b hb=>by
  rcases List.mem_cons.1 hb with rfl | hb
  ·show 3 < 4; omega
  ·have := hdl b hb; show b.id < 4; omega⟩
 have hbody : ∃ fn b,C.P.funcs[f]? = some fn ∧ fn.body = some b := by
  obtain ⟨L,_,_,_,_,_,_,H,_⟩ := MLit.auto_ok K.mix K.name K.ctr (hok 0)
  exact H.body
 refine MS.of (copyS iv tabs gl) hbody hWF (Nat.le_succ _) (by show 5 ≤ obN; decide) (fun g id h=>(K.glob g id h).2) (fun b hb=>?_) fun xs hxl hdom Ef hE1 hE2 ρ vs w hs hG hM hF=>?_
 ·rcases List.mem_cons.1 hb with rfl | hb
  ·exact .inr ⟨Nat.le_refl _,by show 4 < 5; omega⟩
  ·exact .inl ⟨b,hb,rfl⟩
 ·change xs.length = 1 at hxl
  cases vs with
  | nil=>exact hs.elim
  | cons v0 us =>
  obtain ⟨hs0,hs1⟩ := hs
  cases us with
  | cons _ _=>exact hs1.elim
  | nil =>
  obtain ⟨L,hL,hv0,_,_⟩ := hs0
  obtain ⟨c,ys,ρi,hq,hyl,hyd,hsup,hroot,hown,hopen⟩ := pack_open (fun vs L w=>(K.rel vs L w).1) K.shp K.no K.tab (q := 0) hM hL
  have hzq : Ef 0 = xs.getD 0 0 := hE1 0 (by show 0 < 1; omega)
  obtain ⟨a1,a2,a3,a4,a5,a6⟩ := hargs c
  obtain ⟨B,b1,b2,b3,b4,b5,b6,H,b7,b8,b9,b10,b11⟩ := MLit.auto_ok (O := O0) K.mix K.name K.ctr (hok c)
  have hd1 : InDom B.dom (ofL ys) := by rw [b5,a5]; exact hyd
  have hent : ∀ j,j < (sh c).k → B.ent C d fuel f ys j = ofL ys j := fun j hj=>H.inp ys hd1 j (by omega)
  have hMi := hopen (B.ent C d fuel f ys) hent [] (fun p hp=>by cases hp)
  rw [← a2,← b2] at hMi
  obtain ⟨R,hR,hRv⟩ := hroot
  have hsati : satVs (inMap ρ ρi) (B.ent C d fuel f ys) B.args [v0] := by
   rw [b1,a1]
   refine ⟨⟨R,?_,?_⟩,trivial⟩
   ·unfold inMap; rw [if_neg (by omega)]; exact hR
   ·rw [hv0,hRv]
  have hGi : GlobOk C (inMap ρ ρi) := fun g id hg=>by
   obtain ⟨h3,_⟩ := K.glob g id hg
   obtain ⟨G,g1,g2⟩ := hG g id hg
   exact ⟨G,by unfold inMap; rw [if_pos h3]; exact g1,g2⟩
  have hin20 : ∀ i,20 ≤ i → inMap ρ ρi i = none := fun i h1=>by
   unfold inMap
   rw [if_neg (by omega)]
   cases hi : ρi i with
   | none=>rfl
   | some Z =>
    obtain ⟨b,hb,e⟩ := (hsup i Z hi).2
    have := K.top c b hb
    omega
  have hFi : Fresh (inMap ρ ρi) B.nt B.nt' := fun i h1 _=>hin20 i (by rw [b3,a3] at h1; exact h1)
  refine Calls.mono (H.run _ hd1 (by rw [b6,a6]; rfl) _ _ w hsati hGi hMi hFi) fun e w' he=>?_
  obtain ⟨ρ',u,rfl,k1,k2,k3⟩ := he
  rw [b3,a3] at k3
  have hmem : ∀ b ∈ B.mem,b.id < 3 → b ∈ tabs := fun b hb h3=>by
   rw [b2,a2] at hb
   rcases List.mem_append.1 hb with hb | hb
   ·obtain ⟨b0,hb0,rfl⟩ := List.mem_map.1 hb
    have := (Sh.cs (K.shp c) hb0).2
    simp only [litB] at h3; omega
   ·exact hb
  have hdom' := H.dom hd1 b11
  unfold copyP at b10
  split at b10
  rotate_left
  ·cases b10
  rename_i bk o n z hout
  simp only [Bool.and_eq_true] at b10
  obtain ⟨⟨⟨⟨⟨p1,p2⟩,p3⟩,p4⟩,p8⟩,p5⟩ := b10
  have p1 := Nat.le_of_ble_eq_true p1
  have p2 := Nat.eq_of_beq_eq_true p2
  have p3 := Nat.eq_of_beq_eq_true p3
  subst p2; subst p3
  split at p5
  rotate_left
  ·cases p5
  rename_i x hx
  simp only [Bool.and_eq_true,Option.isNone_iff_eq_none,List.isEmpty_iff] at p5
  obtain ⟨⟨p5,p6⟩,p7⟩ := p5
  have p5 := sames_ok p5
  obtain ⟨x1,x2⟩ := findB_ok hx
  have hrs : (bs c).toR C d fuel f (sh c) = (List.range (sh c).k).map .e := by simpa using p4
  have hys : ((bs c).toR C d fuel f (sh c)).map (Ref.val (B.ent C d fuel f ys)) = ys := by
   rw [hrs,List.map_map]
   apply List.ext_getElem (by simp [hyl])
   intro j h1 h2
   simp only [List.getElem_map,List.getElem_range,Function.comp]
   show B.ent C d fuel f ys j = _
   rw [hent j (by omega)]
   unfold ofL
   rw [List.getD_eq_getElem?_getD,List.getElem?_eq_getElem h2,Option.getD_some]
  obtain ⟨L',m1,m2,m3⟩ := pack_close (q := 0) (q' := 0) (Ef := Ef) (fun vs L w=>(K.rel vs L w).2) K.no K.ids hL (fun i Z hi=>⟨(hsup i Z hi).1,by
   obtain ⟨b,hb,e⟩ := (hsup i Z hi).2
   have := K.top c b hb
   omega⟩) ⟨R,hR,hRv⟩ hown hmem k3 k2 b8 b9 hdom' (by rw [hys,hq]) (fun b hb=>(Sh.cs (K.shp c) hb).1)
  obtain ⟨Z,zs,q1,q2,q3⟩ := k2.blk x x1 (allC_nil p7)
  rw [p6] at q3
  rw [p5] at q2
  simp only at q3
  rw [x2] at q1
  have hnew : ρ' bk ≠ inMap ρ ρi bk := by rw [q1,hin20 bk p1]; exact fun e=>by cases e
  have hρ4 : outMap ρ ρ' L' 4 = none := by
   unfold outMap
   rw [if_neg (by omega),if_neg (by omega)]
   exact hF 4 (Nat.le_refl _) (by show 4 < 5; omega)
  have hEf : ∀ j,1 ≤ j → j ≤ 4 → Ef j = B.ent C d fuel f ys (j - 1) := fun j h1 h2=>by
   obtain ⟨h3,h4⟩ := hiv c j h1 h2
   have h5 := hyd _ h4
   have e1 : copyF j xs = ofL ys (j - 1) := by
    unfold copyF ofL
    rw [← hzq,hq,dec_code]
    obtain ⟨i,rfl⟩ : ∃ i,j = i + 1 := ⟨j - 1,by omega⟩
    rfl
   rw [hE2 j h1]
   show clampI (iv j).1 (iv j).2 (copyF j xs) = _
   rw [e1,hent (j - 1) (by omega)]
   unfold clampI
   simp only at h5
   rw [if_neg (by omega),if_pos h5]
  have hblk : Blk O (more (outMap ρ ρ' L') 4 Z) Ef ⟨4,[],four,none⟩ w' := by
   refine ⟨Z,zs,more_self,?_,q3⟩
   match zs,q2 with
   | z0 :: z1 :: z2 :: z3 :: zs,q2 =>
    obtain ⟨s0,s1,s2,s3,_⟩ := q2
    refine ⟨?_,?_,?_,?_,trivial⟩
    ·rw [s0]; exact congrArg _ (hEf 1 (by omega) (by omega)).symm
    ·rw [s1]; exact congrArg _ (hEf 2 (by omega) (by omega)).symm
    ·rw [s2]; exact congrArg _ (hEf 3 (by omega) (by omega)).symm
    ·rw [s3]; exact congrArg _ (hEf 4 (by omega) (by omega)).symm
  have htin : ∀ b ∈ tabs,∃ a ∈ B.after,a.id = b.id ∧ a.cs = [] := (tabsOk_ok (Ef := Ef) b9 k2).2 |> fun h b hb=>(h b hb).2
  have hne19 : ∀ dd,again (sh c).mem root19 B.after = some dd → ∀ y ∈ dd.bl,y.2 ≠ bk := fun dd h y hy e=>by
   rw [h] at p8
   have := List.all_eq_true.1 p8 y hy
   rw [e,Nat.beq_refl] at this
   cases this
  have hM2 := m1.push (n := 4) (L := Z) (ls := four) (obj := none) hρ4 (fun b hb e=>by
   rcases List.mem_cons.1 hb with rfl | hb
   ·simp at e
   ·have := hdl b hb; omega) hblk (fun b hb hc Lb hLb y hy hy'=>by
   rcases List.mem_cons.1 hb with rfl | hb
   ·simp only [outMap,Nat.lt_irrefl,if_false,if_true,Option.some.injEq] at hLb
    subst hLb
    exact m3 bk Z (by omega) q1 hne19 ⟨x,x1,x2,p7⟩ y hy hy'
   ·obtain ⟨a,t1,t2,t3⟩ := htin b hb
    have h3 := hdl b hb
    unfold outMap at hLb
    rw [if_pos h3] at hLb
    exact k2.disj x x1 a t1 (allC_nil p7) (allC_nil t3) (by omega) Z Lb (by rw [x2]; exact q1) (by rw [t2]; exact hLb) y hy hy') fun y hy=>k2.low x x1 (allC_nil p7) Z (by rw [x2]; exact q1) y hy
  refine ⟨_,u,rfl,?_,hM2,?_⟩
  ·rw [hout] at k1
   obtain ⟨Z2,cap,r1,r2,r3,r4⟩ := k1
   rw [q1] at r1
   injection r1 with r1
   subst r1
   exact ⟨Z,cap,more_self,r3,r4⟩
  ·refine ⟨m2.le.trans (more_le hρ4).lk,m2.size,m2.keep,fun i=>?_,fun i Y hY hYn y hy=>?_,m2.io⟩
   ·by_cases hi : i = 4
    ·subst hi; exact .inl (.inl ⟨Nat.le_refl _,by show 4 < 5; omega⟩)
    ·rw [more_ne hi]
     rcases m2.chg i with (h | h) | h
     ·simp only at h; omega
     ·exact .inl (.inr h)
     ·exact .inr h
   ·by_cases hi : i = 4
    ·subst hi
     rw [more_self] at hY
     injection hY with hY
     subst hY
     rcases k3.new bk Z q1 hnew y hy with h | ⟨b,c1,L0,c2,c3⟩
     ·exact .inl h
     ·by_cases hb3 : b.id < 3
      ·refine .inr ⟨b,List.mem_cons_of_mem _ (hmem b c1 hb3),L0,?_,c3⟩
       simp only [inMap,if_pos hb3] at c2
       exact c2
      ·refine .inr ⟨⟨3,[],[.int .i64 (.e 0)],some 1⟩,List.mem_cons_self,L,hL,(hown y).2 ⟨b.id,L0,?_,c3⟩⟩
       simp only [inMap,if_neg hb3] at c2
       exact c2
    ·rw [more_ne hi] at hY hYn
     exact m2.new i Y hY hYn y hy
end
end Go.Proofs.YtbegodiligmphaaGreatDoor.Sy
namespace Go.Proofs.YtbegodiligmphaaGreatDoor
open Go
section
variable {P : Program} {ops : Array Oper} {Q : Exit → Act → World → Prop} {md : Region.Mode}
def waits (md : Region.Mode) (ops : Array Oper) : Nat → Nat → Nat → Bool
 | 0,_,_=>false
 | f + 1,j,i=>((ops[j]?).map fun o=>o.after.any fun e=>Region.binds md e && (e.on == i || waits md ops f e.on i)).getD false
def Shut (md : Region.Mode) (ops : Array Oper) (listed : Array Bool) : Prop :=
 ∀ j oj,ops[j]? = some oj → listed.getD j false = true → ∀ e ∈ oj.after,Region.binds md e = true → listed.getD e.on false = true
theorem shut_set {listed : Array Bool} {i : Nat} (h : Shut md ops listed) (hi : i ∈ Region.ready md ops listed) : Shut md ops (listed.setIfInBounds i true) := by
 obtain ⟨_,oi,hoi,hall⟩ := mem_ready.1 hi
 intro j oj hj hl e he hb
 by_cases hij : i = j
 ·subst hij
  obtain rfl : oj = oi := Option.some.inj (hj.symm.trans hoi)
  exact getD_set_true (hall e he hb)
 ·rw [getD_set_ne false hij] at hl
  exact getD_set_true (h j oj hj hl e he hb)
theorem waits_spec {listed : Array Bool} {i : Nat} (hc : Shut md ops listed) (hi : listed.getD i false = false) :
  ∀ f j,waits md ops f j i = true → listed.getD j false = false ∧ j ∉ Region.ready md ops listed
 | 0,_,h=>by simp [waits] at h
 | f + 1,j,h=>by
  cases ho : ops[j]? with
  | none=>simp [waits,ho] at h
  | some o =>
   simp only [waits,ho,Option.map_some,Option.getD_some] at h
   obtain ⟨e,he,hb⟩ := Array.any_eq_true'.1 h
   simp only [Bool.and_eq_true,Bool.or_eq_true,beq_iff_eq] at hb
   have hn : listed.getD e.on false = false := by
    rcases hb.2 with h2 | h2
    ·rw [h2]; exact hi
    ·exact (waits_spec hc hi f e.on h2).1
   constructor
   ·cases hl : listed.getD j false with
    | false=>rfl
    | true=>have := hc j o ho hl e he hb.1; rw [hn] at this; cases this
   ·intro hr
    obtain ⟨_,o',ho',hall⟩ := mem_ready.1 hr
    obtain rfl : o' = o := Option.some.inj (ho'.symm.trans ho)
    have := hall e he hb.1
    rw [hn] at this; cases this
theorem yieldsAt_of {w : World} {o : Oper} {v : Value} {a : Act} (h : Yields P ops o v a) : YieldsAt P ops w o v a := by
 rcases h with ⟨h1,h2⟩ | h
 ·exact .inl ⟨h1,.inl (h2 w)⟩
 ·exact .inr h
def isMove (o : Oper) : Bool := match o.op,o.guard with
 | .move _,none=>true
 | .extract _ _,none=>true
 | _,_=>false
theorem run_extract {ρ : Operand → Value} {o : Oper} (x : Operand) (i : Nat) (h : o.op = .extract x i) (w : World) : (∃ v,∀ w',(execOp ρ o).run P w' = .ok (.value v) w') ∨ ∃ e,(execOp ρ o).run P w = .halt e w := by
 unfold execOp
 simp only [h,Instr.extract]
 cases ρ x with
 | tuple vs =>
  cases hv : vs[i]? with
  | some v=>exact .inl ⟨v,fun w'=>by simp [hv]⟩
  | none=>exact .inr ⟨_,by simp [stuck,hv]; rfl⟩
 | _=>exact .inr ⟨_,by simp [stuck]; rfl⟩
theorem yields_move {o : Oper} {a : Act} {v : Value} {w : World} (h : isMove o = true) (hy : YieldsAt P ops w o v a) : Yields P ops o v a := by
 unfold isMove at h
 split at h
 ·rename_i x ho hg
  have hw : Region.wanted o (yielded ops a.tmps) = true := by simp [Region.wanted,hg]
  rcases hy with ⟨_,h2 | ⟨h2,_⟩ | ⟨f,args,h2,_⟩⟩ | ⟨h2,_⟩
  ·rw [BigFrame.run_move x ho w] at h2
   obtain rfl : a.eval x = v := by simpa using h2
   exact .inl ⟨hw,fun w=>BigFrame.run_move x ho w⟩
  ·rw [BigFrame.run_move x ho w] at h2; simp at h2
  ·rw [BigFrame.run_move x ho w] at h2; simp at h2
  ·rw [hw] at h2; cases h2
 ·rename_i x i ho hg
  have hw : Region.wanted o (yielded ops a.tmps) = true := by simp [Region.wanted,hg]
  rcases run_extract (P := P) (ρ := a.eval) x i ho w with ⟨u,hu⟩ | ⟨e,he⟩
  ·rcases hy with ⟨_,h2 | ⟨h2,_⟩ | ⟨f,args,h2,_⟩⟩ | ⟨h2,_⟩
   ·rw [hu w] at h2
    obtain rfl : u = v := by simpa using h2
    exact .inl ⟨hw,hu⟩
   ·rw [hu w] at h2; simp at h2
   ·rw [hu w] at h2; simp at h2
   ·rw [hw] at h2; cases h2
  ·rcases hy with ⟨_,h2 | ⟨h2,_⟩ | ⟨f,args,h2,_⟩⟩ | ⟨h2,_⟩
   ·rw [he] at h2; simp at h2
   ·rw [he] at h2; simp at h2
   ·rw [he] at h2; simp at h2
   ·rw [hw] at h2; cases h2
 ·cases h
end
end Go.Proofs.YtbegodiligmphaaGreatDoor
