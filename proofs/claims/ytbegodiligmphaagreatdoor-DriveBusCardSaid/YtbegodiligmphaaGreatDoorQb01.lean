/- Part of the proof of BusProof. A symbolic evaluator: longer maps of blocks; known values; what operands are. No program in sight. A symbolic evaluator: what memory operations do. No program in sight. A symbolic evaluator: selections, loads, stores, comparisons. No program in sight. A symbolic evaluator: numbers, comparisons, addresses, literals. No program in sight. A symbolic evaluator: equal arrays, addresses of elements, cuts, literals, appends. No program in sight. A symbolic evaluator: addresses of elements, cuts, literals, appends. No program in sight. A symbolic evaluator: literals, appends. No program in sight. A symbolic evaluator: a slice or an object that is told by conditions is made one block. No program in sight. -/
import Derived.ChangeKeysEq
import Derived.Deep.AppendSrc
import Derived.Laws.Runes
import Derived.Test.YtbegodiligmphaaGreatDoorQb00
namespace Go.Proofs.YtbegodiligmphaaGreatDoor.Sy
open Go
section
def Le (ρ ρ' : Map) : Prop := ∀ i L,ρ i = some L → ρ' i = some L
theorem Le.rfl' {ρ : Map} : Le ρ ρ := fun _ _ h=>h
def Loc.like (L L' : Loc) : Prop := L'.n = L.n ∧ L'.tot = L.tot ∧ L'.val = L.val
def Lk (ρ ρ' : Map) : Prop := ∀ i L,ρ i = some L → ∃ L',ρ' i = some L' ∧ L.like L'
theorem Le.lk {ρ ρ' : Map} (h : Le ρ ρ') : Lk ρ ρ' := fun i L hL=>⟨L,h i L hL,rfl,rfl,rfl⟩
theorem Lk.rfl' {ρ : Map} : Lk ρ ρ := Le.rfl'.lk
theorem Lk.trans {ρ ρ' ρ'' : Map} (h : Lk ρ ρ') (h' : Lk ρ' ρ'') : Lk ρ ρ'' := fun i L hL=>by
 obtain ⟨L1,h1,a1,a2,a3⟩ := h i L hL
 obtain ⟨L2,h2,b1,b2,b3⟩ := h' i L1 h1
 exact ⟨L2,h2,b1.trans a1,b2.trans a2,b3.trans a3⟩
section
variable {ρ ρ' : Map} {E : Nat → Int}
mutual
theorem Leaf.mono (hle : Lk ρ ρ') : ∀ (l : Leaf) {v : Value},l.sat ρ E v → l.sat ρ' E v
 | .int _ _,_,h=>h
 | .bool _,_,h=>h
 | .ptr _ _,_,⟨n,hn,e⟩=>let ⟨n',hn',e1,_,_⟩ := hle _ _ hn; ⟨n',hn',by rw [e1]; exact e⟩
 | .pdx _ _ _ _ _,_,⟨n,hn,e⟩=>let ⟨n',hn',e1,_,_⟩ := hle _ _ hn; ⟨n',hn',by rw [e1]; exact e⟩
 | .slc _ _ _ _,_,⟨n,hn,e⟩=>let ⟨n',hn',e1,_,_⟩ := hle _ _ hn; ⟨n',hn',by rw [e1]; exact e⟩
 | .slu _ _ _ _,_,⟨n,c,hn,e⟩=>let ⟨n',hn',e1,e2,_⟩ := hle _ _ hn; ⟨n',c,hn',by rw [e1,e2]; exact e⟩
 | .sla _ _ _,_,⟨n,c,hn,e⟩=>let ⟨n',hn',e1,_,_⟩ := hle _ _ hn; ⟨n',c,hn',by rw [e1]; exact e⟩
 | .opq _,_,⟨n,hn,e⟩=>let ⟨n',hn',_,_,e3⟩ := hle _ _ hn; ⟨n',hn',by rw [e3]; exact e⟩
 | .opl _ _,_,⟨n,hn,e⟩=>let ⟨n',hn',_,_,e3⟩ := hle _ _ hn; ⟨n',hn',by rw [e3]; exact e⟩
 | .nilP,_,h=>h
 | .nilI,_,h=>h
 | .nilS,_,h=>h
 | .nilF,_,h=>h
 | .ifc _ x,_,⟨u,e,h⟩=>⟨u,e,Leaf.mono hle x h⟩
 | .fn _ cs,_,⟨us,e,h⟩=>⟨us,e,Leaf.monos hle cs h⟩
 | .cons _ _,_,h=>h
 | .mix _ a b,_,h=>⟨fun hc=>Leaf.mono hle a (h.1 hc),fun hc=>Leaf.mono hle b (h.2 hc)⟩
 | .junk,_,h=>h
theorem Leaf.monos (hle : Lk ρ ρ') : ∀ (l : Leaf) {vs : List Value},l.satc ρ E vs → l.satc ρ' E vs
 | .cons a b,_ :: _,h=>⟨Leaf.mono hle a h.1,Leaf.monos hle b h.2⟩
 | .cons _ _,[],h=>h
 | .int _ _,_,h=>h
 | .bool _,_,h=>h
 | .ptr _ _,_,h=>h
 | .pdx _ _ _ _ _,_,h=>h
 | .slc _ _ _ _,_,h=>h
 | .slu _ _ _ _,_,h=>h
 | .sla _ _ _,_,h=>h
 | .opq _,_,h=>h
 | .opl _ _,_,h=>h
 | .nilP,_,h=>h
 | .nilI,_,h=>h
 | .nilS,_,h=>h
 | .nilF,_,h=>h
 | .ifc _ _,_,h=>h
 | .fn _ _,_,h=>h
 | .mix _ _ _,_,h=>h
 | .junk,_,h=>h
end
theorem sats_mono (hle : Lk ρ ρ') : ∀ (ls : List Leaf) {vs : List Value},sats ρ E ls vs → sats ρ' E ls vs
 | [],_,_=>trivial
 | l :: ls,_ :: _,h=>⟨Leaf.mono hle l h.1,sats_mono hle ls h.2⟩
 | _ :: _,[],h=>h
theorem SA.mono (hle : Lk ρ ρ') : ∀ (x : SA) {v : Value},x.sat ρ E v → x.sat ρ' E v
 | .one l,_,h=>Leaf.mono hle l h
 | .agg ls,_,⟨cs,e,hl,h⟩=>⟨cs,e,hl,sats_mono hle ls h⟩
theorem satA_mono (hle : Lk ρ ρ') : ∀ (xs : List SA) {vs : List Value},satA ρ E xs vs → satA ρ' E xs vs
 | [],[],h=>h
 | x :: xs,_ :: _,h=>⟨SA.mono hle x h.1,satA_mono hle xs h.2⟩
 | [],_ :: _,h=>h
 | _ :: _,[],h=>h
theorem SV.mono (hle : Lk ρ ρ') : ∀ (x : SV) {v : Value},x.sat ρ E v → x.sat ρ' E v
 | .a x,_,h=>SA.mono hle x h
 | .tup xs,_,⟨vs,e,h⟩=>⟨vs,e,satA_mono hle xs h⟩
 | .whn _ x,_,h=>⟨fun hc=>SA.mono hle x (h.1 hc),h.2⟩
theorem leafOf_ok (v : Value) : (leafOf v).sat ρ E v := by
 cases v with
 | int k n=>rfl
 | bool b=>simp only [leafOf,Leaf.sat,Ref.val]; rw [truth_ofB]
 | pointer a=>cases a with
  | none=>rfl
  | some _=>trivial
 | slice a l c=>cases a with
  | none =>
   simp only [leafOf]
   split
   ·rename_i h; obtain ⟨rfl,rfl⟩ := h; rfl
   ·trivial
  | some _=>trivial
 | nilIface=>rfl
 | nilFunc=>rfl
 | iface t u =>
  simp only [leafOf]
  split
  ·exact ⟨_,rfl,rfl⟩
  ·trivial
 | func fn first caps=>cases fn with
  | func f =>
   simp only [leafOf]
   split
   ·rename_i h
    obtain ⟨h1,h2⟩ := h
    obtain rfl : first = #[] := Array.size_eq_zero_iff.1 h1
    obtain rfl : caps = #[] := Array.size_eq_zero_iff.1 h2
    exact ⟨[],rfl,rfl⟩
   ·trivial
  | _=>trivial
 | _=>trivial
theorem leafs_ok : ∀ (vs : List Value),sats ρ E (vs.map leafOf) vs
 | []=>trivial
 | v :: vs=>⟨leafOf_ok v,leafs_ok vs⟩
theorem svOf_ok (v : Value) : (svOf v).sat ρ E v := by
 unfold svOf
 split
 ·rename_i cs
  exact ⟨cs.toList,by simp,by simp,leafs_ok _⟩
 ·exact leafOf_ok _
theorem sats_le : ∀ {ls : List Leaf} {vs : List Value},sats ρ E ls vs → ls.length ≤ vs.length
 | [],_,_=>Nat.zero_le _
 | _ :: _,_ :: _,h=>by simp only [List.length_cons]; have := sats_le h.2; omega
 | _ :: _,[],h=>h.elim
theorem sats_get : ∀ {ls : List Leaf} {vs : List Value},sats ρ E ls vs → ∀ {i : Nat} {l : Leaf},ls[i]? = some l → ∃ v,vs[i]? = some v ∧ l.sat ρ E v
 | l :: ls,v :: vs,h,0,x,hx=>⟨v,rfl,by
   obtain rfl : l = x := by simpa using hx
   exact h.1⟩
 | l :: ls,v :: vs,h,i + 1,x,hx=>by simpa using sats_get h.2 (by simpa using hx)
 | [],_,_,i,x,hx=>by simp at hx
 | _ :: _,[],h,_,_,_=>h.elim
theorem sats_drop : ∀ {ls : List Leaf} {vs : List Value} (n : Nat),sats ρ E ls vs → sats ρ E (ls.drop n) (vs.drop n)
 | _,_,0,h=>h
 | _ :: _,_ :: _,n + 1,h=>sats_drop n h.2
 | [],_,n + 1,_=>by simp [sats]
 | _ :: _,[],_ + 1,h=>h.elim
theorem sats_take : ∀ {ls : List Leaf} {vs : List Value} (n : Nat),sats ρ E ls vs → sats ρ E (ls.take n) (vs.take n)
 | _,_,0,_=>by simp [sats]
 | _ :: _,_ :: _,n + 1,h=>⟨h.1,sats_take n h.2⟩
 | [],_,_ + 1,_=>trivial
 | _ :: _,[],_ + 1,h=>h.elim
theorem sats_pre : ∀ {ls : List Leaf} {vs us : List Value},sats ρ E ls vs → sats ρ E ls (vs ++ us)
 | [],_,_,_=>trivial
 | _ :: _,_ :: _,_,h=>⟨h.1,sats_pre h.2⟩
 | _ :: _,[],_,h=>h.elim
theorem sats_cut : ∀ {ls : List Leaf} {vs : List Value} (n : Nat),ls.length ≤ n → sats ρ E ls vs → sats ρ E ls (vs.take n)
 | [],_,_,_,_=>trivial
 | _ :: _,_ :: _,n + 1,hn,h=>⟨h.1,sats_cut n (by simpa using hn) h.2⟩
 | _ :: _,_ :: _,0,hn,_=>by simp at hn
 | _ :: _,[],_,_,h=>h.elim
theorem sats_app : ∀ {ls ks : List Leaf} {vs us : List Value},ls.length = vs.length → sats ρ E ls vs → sats ρ E ks us → sats ρ E (ls ++ ks) (vs ++ us)
 | [],_,[],_,_,_,h=>h
 | _ :: _,_,_ :: _,_,hl,h,h'=>⟨h.1,sats_app (by simpa using hl) h.2 h'⟩
 | [],_,_ :: _,_,hl,_,_=>by simp at hl
 | _ :: _,_,[],_,hl,_,_=>by simp at hl
theorem sats_set : ∀ {ls : List Leaf} {vs : List Value} (i : Nat) {l : Leaf} {v : Value},sats ρ E ls vs → l.sat ρ E v → sats ρ E (ls.set i l) (vs.set i v)
 | _ :: _,_ :: _,0,_,_,h,hl=>⟨hl,h.2⟩
 | _ :: _,_ :: _,i + 1,_,_,h,hl=>⟨h.1,sats_set i h.2 hl⟩
 | [],_,_,_,_,_,_=>trivial
 | _ :: _,[],_,_,_,h,_=>h.elim
def GlobOk (X : Cx) (ρ : Map) : Prop := ∀ gl id,X.glob gl = some id → ∃ L,ρ id = some L ∧ L.n = gl
theorem GlobOk.mono {X : Cx} (h : GlobOk X ρ) (hle : Lk ρ ρ') : GlobOk X ρ' := fun gl id hi=>let ⟨_L,hl,e⟩ := h gl id hi; let ⟨L',hl',e1,_⟩ := hle _ _ hl; ⟨L',hl',e1.trans e⟩
theorem evX_ok {X : Cx} {ts : List SV} {a : Act} {x : Operand} {v : SV} (hr : ∀ t,x = .tmp t → ∀ sv : SV,ts[t]? = some sv → sv.sat ρ E (a.tmps.getD t undef)) (hg : GlobOk X ρ) (h : evX X ts x = some v) : v.sat ρ E (a.eval x) := by
 cases x with
 | tmp t=>exact hr t rfl v h
 | const u =>
  obtain rfl : svOf u = v := by simpa [evX] using h
  exact svOf_ok u
 | global gl =>
  simp only [evX] at h
  cases hi : X.glob gl with
  | none=>rw [hi] at h; cases h
  | some id =>
   rw [hi] at h
   obtain rfl : SV.a (.one (.ptr id 0)) = v := by simpa using h
   obtain ⟨L,hl,e⟩ := hg gl id hi
   exact ⟨L,hl,by rw [e]; rfl⟩
 | func f =>
  obtain rfl : SV.a (.one (.fn f .junk)) = v := by simpa [evX] using h
  exact ⟨[],rfl,rfl⟩
theorem ev1_eq {ev : Ev} {x : Operand} {l : Leaf} (h : ev1 ev x = some l) : ev x = some (.a (.one l)) := by
 unfold ev1 at h
 split at h
 ·rename_i l' hx
  obtain rfl : l' = l := by injection h
  exact hx
 ·cases h
theorem evA_eq {ev : Ev} {x : Operand} {z : SA} (h : evA ev x = some z) : ev x = some (.a z) := by
 unfold evA at h
 split at h
 ·rename_i l' hx
  obtain rfl : l' = z := by injection h
  exact hx
 ·cases h
def Plain (v : Value) : Prop := (∀ cs,v ≠ .agg cs) ∧ ∀ vs,v ≠ .tuple vs
theorem firm_plain : ∀ {l : Leaf} {v : Value},l.firm = true → l.sat ρ E v → Plain v
 | .int _ _,_,_,h=>by subst h; exact ⟨fun _ h=>(by cases h),fun _ h=>(by cases h)⟩
 | .bool _,_,_,h=>by subst h; exact ⟨fun _ h=>(by cases h),fun _ h=>(by cases h)⟩
 | .ptr _ _,_,_,⟨_,_,h⟩=>by subst h; exact ⟨fun _ h=>(by cases h),fun _ h=>(by cases h)⟩
 | .pdx _ _ _ _ _,_,_,⟨_,_,_,_,h⟩=>by subst h; exact ⟨fun _ h=>(by cases h),fun _ h=>(by cases h)⟩
 | .slc _ _ _ _,_,_,⟨_,_,h⟩=>by subst h; exact ⟨fun _ h=>(by cases h),fun _ h=>(by cases h)⟩
 | .slu _ _ _ _,_,_,⟨_,_,_,_,_,h⟩=>by subst h; exact ⟨fun _ h=>(by cases h),fun _ h=>(by cases h)⟩
 | .sla _ _ _,_,_,⟨_,_,_,_,h⟩=>by subst h; exact ⟨fun _ h=>(by cases h),fun _ h=>(by cases h)⟩
 | .nilP,_,_,h=>by subst h; exact ⟨fun _ h=>(by cases h),fun _ h=>(by cases h)⟩
 | .nilI,_,_,h=>by subst h; exact ⟨fun _ h=>(by cases h),fun _ h=>(by cases h)⟩
 | .nilS,_,_,h=>by subst h; exact ⟨fun _ h=>(by cases h),fun _ h=>(by cases h)⟩
 | .nilF,_,_,h=>by subst h; exact ⟨fun _ h=>(by cases h),fun _ h=>(by cases h)⟩
 | .ifc _ _,_,_,⟨_,h,_⟩=>by subst h; exact ⟨fun _ h=>(by cases h),fun _ h=>(by cases h)⟩
 | .fn _ _,_,_,⟨_,h,_⟩=>by subst h; exact ⟨fun _ h=>(by cases h),fun _ h=>(by cases h)⟩
 | .cons _ _,_,h,_=>by cases h
 | .opq _,_,_,⟨_,_,_,h⟩=>h
 | .opl _ _,_,_,⟨_,_,_,_,_,_,h,_⟩=>by subst h; exact ⟨fun _ h=>(by cases h),fun _ h=>(by cases h)⟩
 | .junk,_,h,_=>by cases h
 | .mix c a b,v,hf,h=>by
  simp only [Leaf.firm,Bool.and_eq_true] at hf
  cases hc : truth (c.val E)
  ·exact firm_plain hf.2 (h.2 hc)
  ·exact firm_plain hf.1 (h.1 hc)
theorem Plain.cells {v : Value} (h : Plain v) : v.cells = #[v] := by
 cases v with
 | agg cs=>exact absurd rfl (h.1 cs)
 | _=>rfl
theorem solid_cells {x : SA} {v : Value} (hs : x.solid = true) (h : x.sat ρ E v) : sats ρ E x.cells v.cells.toList ∧ v.cells.toList.length = x.cells.length := by
 cases x with
 | one l =>
  rw [(firm_plain hs h).cells]
  exact ⟨⟨h,trivial⟩,rfl⟩
 | agg ls =>
  obtain ⟨cs,rfl,hl,h⟩ := h
  simpa [SA.cells,Value.cells] using ⟨h,hl⟩
theorem firms_plain : ∀ {ls : List Leaf} {vs : List Value},ls.all Leaf.firm = true → sats ρ E ls vs → ls.length = vs.length → ∀ v ∈ vs,Plain v
 | [],[],_,_,_,_,hv=>by cases hv
 | l :: ls,v :: vs,hf,h,hl,u,hu=>by
  simp only [List.all_cons,Bool.and_eq_true] at hf
  rcases List.mem_cons.1 hu with rfl | hu
  ·exact firm_plain hf.1 h.1
  ·exact firms_plain hf.2 h.2 (by simpa using hl) u hu
 | [],_ :: _,_,_,hl,_,_=>by simp at hl
 | _ :: _,[],_,h,_,_,_=>h.elim
end
def Fresh (ρ : Map) (lo hi : Nat) : Prop := ∀ i,lo ≤ i → i < hi → ρ i = none
theorem Fresh.sub {ρ : Map} {a b c d : Nat} (h : Fresh ρ a d) (h1 : a ≤ b) (h2 : c ≤ d) : Fresh ρ b c := fun i hi hj=>h i (by omega) (by omega)
def WF (m : Mem) : Prop := m.bs.Pairwise (fun a b=>b.id < a.id) ∧ ∀ b ∈ m.bs,b.id < m.nb
structure St (I : Nat → Int) (X : Nat → List Int → Int) (E : Nat → Int) (g g' : Gl) (m m' : Mem) : Prop where
 good : Good I X E g' → Good I X E g
 nb : m.nb ≤ m'.nb
 ids : ∀ b ∈ m'.bs,(∃ b0 ∈ m.bs,b0.id = b.id) ∨ (m.nb ≤ b.id ∧ b.id < m'.nb)
 wf : WF m → WF m'
structure Ext (ρ ρ' : Map) (m m' : Mem) (w w' : World) : Prop where
 le : Lk ρ ρ'
 size : w.heap.size ≤ w'.heap.size
 keep : ∀ n,n < w.heap.size → (∀ b ∈ m.bs,∀ L,ρ b.id = some L → ¬ L.own n) → w'.heap[n]? = w.heap[n]?
 chg : ∀ i,(m.nb ≤ i ∧ i < m'.nb ∨ i < m.nb ∧ ∃ b ∈ m.bs,b.id = i) ∨ ρ' i = ρ i
 new : ∀ i L,ρ' i = some L → ρ' i ≠ ρ i → ∀ x,L.own x → w.heap.size ≤ x ∨ ∃ b ∈ m.bs,∃ L0,ρ b.id = some L0 ∧ L0.own x
 io : Go.RowKit.Below 0 w w'
section
variable {I : Nat → Int} {X : Nat → List Int → Int} {E : Nat → Int} {g g1 g2 : Gl} {m m1 m2 : Mem} {ρ ρ1 ρ2 : Map} {w w1 w2 : World} {O : Objs}
theorem St.rfl' : St I X E g g m m := ⟨id,Nat.le_refl _,fun b hb=>.inl ⟨b,hb,rfl⟩,id⟩
theorem St.of_good (h : Good I X E g1 → Good I X E g) : St I X E g g1 m m := ⟨h,Nat.le_refl _,fun b hb=>.inl ⟨b,hb,rfl⟩,id⟩
theorem St.trans (h : St I X E g g1 m m1) (h' : St I X E g1 g2 m1 m2) : St I X E g g2 m m2 :=
 ⟨fun H=>h.good (h'.good H),Nat.le_trans h.nb h'.nb,fun b hb=>by
  rcases h'.ids b hb with ⟨b1,hb1,e⟩ | ⟨h1,h2⟩
  ·rcases h.ids b1 hb1 with ⟨b0,hb0,e0⟩ | ⟨h3,h4⟩
   ·exact .inl ⟨b0,hb0,e0.trans e⟩
   ·exact .inr (by have := h'.nb; omega)
  ·exact .inr (by have := h.nb; omega),fun H=>h'.wf (h.wf H)⟩
theorem Ext.rfl' : Ext ρ ρ m m w w := ⟨Lk.rfl',Nat.le_refl _,fun _ _ _=>rfl,fun _=>.inr rfl,fun _ _ _ h=>absurd rfl h,Go.RowKit.Below.refl 0 w⟩
theorem Ext.trans (h : Ext ρ ρ1 m m1 w w1) (h' : Ext ρ1 ρ2 m1 m2 w1 w2) (s : St I X E g g1 m m1) (s' : St I X E g1 g2 m1 m2) (hf : Fresh ρ m.nb m1.nb) : Ext ρ ρ2 m m2 w w2 := by
 have own1 : ∀ b1 ∈ m1.bs,∀ L,ρ1 b1.id = some L → ∀ x,L.own x → w.heap.size ≤ x ∨ ∃ b ∈ m.bs,∃ L0,ρ b.id = some L0 ∧ L0.own x := fun b1 hb1 L hL x hx=>by
  by_cases hr : ρ1 b1.id = ρ b1.id
  ·rw [hr] at hL
   rcases s.ids b1 hb1 with ⟨b0,hb0,e⟩ | ⟨h1,h2⟩
   ·exact .inr ⟨b0,hb0,L,by rw [e]; exact hL,hx⟩
   ·rw [hf _ h1 h2] at hL; cases hL
  ·exact h.new _ L hL hr x hx
 refine ⟨h.le.trans h'.le,Nat.le_trans h.size h'.size,fun n hn hno=>?_,fun i=>?_,fun i L hi hL x hx=>?_,h.io.trans h'.io⟩
 ·have e1 := h.keep n hn hno
  rw [← e1]
  refine h'.keep n (Nat.lt_of_lt_of_le hn h.size) fun b1 hb1 L hL hown=>?_
  rcases own1 b1 hb1 L hL n hown with hlt | ⟨b,hb,L0,h1,h2⟩
  ·omega
  ·exact hno b hb L0 h1 h2
 ·have := s.nb; have := s'.nb
  rcases h'.chg i with (h2 | ⟨h2,b1,hb1,e1⟩) | h2
  ·exact .inl (.inl (by omega))
  ·rcases s.ids b1 hb1 with ⟨b0,hb0,e⟩ | ⟨h3,h4⟩
   ·by_cases hi : i < m.nb
    ·exact .inl (.inr ⟨hi,b0,hb0,e.trans e1⟩)
    ·exact .inl (.inl (by omega))
   ·exact .inl (.inl (by omega))
  ·rcases h.chg i with (h1 | h1) | h1
   ·exact .inl (.inl (by omega))
   ·exact .inl (.inr h1)
   ·exact .inr (h2.trans h1)
 ·by_cases hr : ρ2 i = ρ1 i
  ·rw [hr] at hi hL
   exact h.new i L hi hL x hx
  ·rcases h'.new i L hi hr x hx with hlt | ⟨b1,hb1,L0,h1,h2⟩
   ·exact .inl (by have := h.size; omega)
   ·exact own1 b1 hb1 L0 h1 x h2
theorem Fresh.step (h : Fresh ρ m.nb m2.nb) (he : Ext ρ ρ1 m m1 w w1) (s : St I X E g g1 m m1) : Fresh ρ1 m1.nb m2.nb := fun i hi hj=>by
 have := s.nb
 rcases he.chg i with (h1 | h1) | h1
 ·omega
 ·omega
 ·rw [h1]; exact h i (by omega) hj
theorem M.sub {l l' : List SB} (h : M O ρ E l w) (hs : ∀ b ∈ l',b ∈ l) : M O ρ E l' w :=
 ⟨fun b hb=>h.blk b (hs b hb),fun b hb b' hb'=>h.disj b (hs b hb) b' (hs b' hb'),fun b hb=>h.low b (hs b hb)⟩
theorem Blk.mono {b : SB} (h : Blk O ρ E b w) (hle : Lk ρ ρ1) (he : ρ1 b.id = ρ b.id) : Blk O ρ1 E b w := by
 obtain ⟨L,vs,hl,hs,hr⟩ := h
 exact ⟨L,vs,he.trans hl,sats_mono hle _ hs,hr⟩
theorem Blk.keep {b : SB} (h : Blk O ρ E b w) (hsz : w.heap.size ≤ w1.heap.size) (hk : ∀ L,ρ b.id = some L → ∀ x,L.own x → w1.heap[x]? = w.heap[x]?) : Blk O ρ E b w1 := by
 obtain ⟨L,vs,hl,hs,hr⟩ := h
 refine ⟨L,vs,hl,hs,?_⟩
 cases ho : b.obj with
 | none =>
  simp only [ho] at hr ⊢
  exact ⟨hr.1,hr.2.1,by rw [hk L hl L.n ((hr.1 _).2 rfl)]; exact hr.2.2⟩
 | some k =>
  simp only [ho] at hr ⊢
  exact O.re_keep hr hsz (hk L hl)
theorem M.mono {l : List SB} (h : M O ρ E l w) (hle : Lk ρ ρ1) (he : ∀ b ∈ l,ρ1 b.id = ρ b.id) : M O ρ1 E l w := by
 have back : ∀ b ∈ l,∀ L,ρ1 b.id = some L → ρ b.id = some L := fun b hb L hL=>by
  rw [← he b hb]; exact hL
 exact ⟨fun b hb hc=>(h.blk b hb hc).mono hle (he b hb),fun b hb b' hb' hc hc' hne L L' hL hL'=>h.disj b hb b' hb' hc hc' hne L L' (back b hb L hL) (back b' hb' L' hL'),
  fun b hb hc L hL=>h.low b hb hc L (back b hb L hL)⟩
theorem WF.uniq (h : WF m) {b b' : SB} (hb : b ∈ m.bs) (hb' : b' ∈ m.bs) (e : b.id = b'.id) : b = b' := by
 obtain ⟨hp,_⟩ := h
 generalize m.bs = l at hp hb hb'
 induction l with
 | nil=>cases hb
 | cons x l ih =>
  obtain ⟨h1,h2⟩ := List.pairwise_cons.1 hp
  rcases List.mem_cons.1 hb with hb1 | hb1 <;> rcases List.mem_cons.1 hb' with hb2 | hb2
  ·rw [hb1,hb2]
  ·have := h1 _ hb2; rw [hb1] at e; omega
  ·have := h1 _ hb1; rw [hb2] at e; omega
  ·exact ih h2 hb1 hb2
theorem joinMem_ids {c : Ref} {m n z : Mem} {g g' : Gl} (h : joinMem c m n g = (z,g')) : (∀ b ∈ z.bs,(∃ a ∈ m.bs,a.id = b.id) ∨ ∃ a ∈ n.bs,a.id = b.id) ∧ z.nb = max m.nb n.nb ∧ (WF m → WF n → WF z) := by
 unfold joinMem at h
 rcases h2 : joinM c (m.bs.length + n.bs.length + 1) m.bs n.bs g with ⟨bs,g2⟩
 rw [h2] at h
 injection h with e1 e2; subst e1
 have k1 := joinM_ids (c := c) (f := m.bs.length + n.bs.length + 1) (m := m.bs) (n := n.bs) (g := g)
 have k2 := fun h1 h2=>joinM_desc (c := c) (f := m.bs.length + n.bs.length + 1) (m := m.bs) (n := n.bs) (g := g) h1 h2
 rw [h2] at k1 k2
 refine ⟨k1,rfl,fun hm hn=>⟨k2 hm.1 hn.1,fun b hb=>?_⟩⟩
 simp only
 rcases k1 b hb with ⟨a,ha,e⟩ | ⟨a,ha,e⟩
 ·have := hm.2 a ha; omega
 ·have := hn.2 a ha; omega
end
end
section
variable {P : Program} {T : Tys} [TyOk P T] {ρ : Map} {E : Nat → Int} {w : World}
theorem und_ok {t : TypeId} {d : TypeDesc} (h : undT T t = some d) : P.underlying t = some d := by
 unfold undT at h
 split at h
 ·rename_i i hi
  injection h with h; subst h
  exact (TyOk.ok t i hi).1
 ·cases h
theorem run_under {t : TypeId} {d : TypeDesc} (h : P.underlying t = some d) (w : World) : (underlying t).run P w = .ok d w := run_underlying h w
theorem run_isAggT {t : TypeId} {b : Bool} (h : isAggT T t = some b) (w : World) : (isAgg t).run P w = .ok b w := by
 unfold isAggT at h
 cases hu : undT T t with
 | none=>rw [hu] at h; cases h
 | some d =>
  rw [hu] at h
  unfold isAgg
  rw [Sem.run_bind,run_under (und_ok hu) w]
  cases d <;> (simp only [Result.andThen_ok] at h ⊢; injection h with h; subst h; rfl)
theorem sizeT_ok {t : TypeId} {n : Nat} (h : sizeT T t = some n) : ∃ i,P.info? t = some i ∧ i.size = n := by
 unfold sizeT at h
 cases hi : T t with
 | none=>rw [hi] at h; cases h
 | some i =>
  rw [hi] at h
  exact ⟨i.info,(TyOk.ok t i hi).2,by simpa using h⟩
theorem bytesT_ok {t : TypeId} {n : Nat} (h : bytesT T t = some n) : ∃ i,P.info? t = some i ∧ i.bytes = n := by
 unfold bytesT at h
 cases hi : T t with
 | none=>rw [hi] at h; cases h
 | some i =>
  rw [hi] at h
  exact ⟨i.info,(TyOk.ok t i hi).2,by simpa using h⟩
theorem run_sizeT {t : TypeId} {n : Nat} (h : sizeT T t = some n) (w : World) : (sizeOf t).run P w = .ok n w := by
 obtain ⟨i,hi,rfl⟩ := sizeT_ok (P := P) h
 simp [sizeOf,typeInfo,Sem.run_bind,hi]
theorem take_drop_len {α : Type} {ls : List α} {off n : Nat} (h : off + n ≤ ls.length) : ((ls.drop off).take n).length = n := by simp; omega
theorem partS_ok {t : TypeId} {ls : List Leaf} {cs : List Value} {off : Nat} {z : SA} (h : partS T t ls off = some z) (hs : sats ρ E ls cs) (w : World) :
  ∃ v,(part t cs.toArray off).run P w = .ok v w ∧ z.sat ρ E v := by
 unfold partS at h
 split at h
 ·rename_i ha
  split at h
  ·rename_i n hn
   split at h
   ·rename_i hle
    obtain rfl : SA.agg ((ls.drop off).take n) = z := by injection h
    have hl := sats_le hs
    refine ⟨.agg ((cs.drop off).take n).toArray,?_,_,rfl,?_,sats_take n (sats_drop off hs)⟩
    ·unfold part
     simp only [Sem.run_bind,run_isAggT ha w,run_sizeT hn w,Result.andThen_ok,if_true,Sem.run_pure]
     congr 2
     simp [List.extract_toArray]
    ·rw [take_drop_len hle,take_drop_len (by omega)]
   ·cases h
  ·cases h
 ·rename_i ha
  cases hl : ls[off]? with
  | none=>rw [hl] at h; cases h
  | some l =>
   rw [hl] at h
   obtain rfl : SA.one l = z := by simpa using h
   obtain ⟨v,hv,hsat⟩ := sats_get hs hl
   refine ⟨v,?_,hsat⟩
   unfold part
   simp only [Sem.run_bind,run_isAggT ha w,Result.andThen_ok]
   simp [hv]
 ·cases h
theorem cell_at {w : World} {n : Nat} {t : TypeId} {cs : List Value} (h : w.heap[n]? = some (.cells cs.toArray t (0,0))) (o : Nat) : w.cell? ⟨n,o,none⟩ = cs[o]? := by
 simp [World.cell?,h]
theorem load_agg {t : TypeId} {cs : List Value} {off n sz : Nat} {bt : TypeId} (ha : isAggT T t = some true) (hn : sizeT T t = some sz) (hle : off + sz ≤ cs.length) (hb : w.heap[n]? = some (.cells cs.toArray bt (0,0))) :
  (loadVar t ⟨n,off,none⟩).run P w = .ok (.agg ((cs.drop off).take sz).toArray) w := by
 have hlen : ((cs.drop off).take sz).length = sz := take_drop_len hle
 unfold isAggT at ha
 cases hu : undT T t with
 | none=>rw [hu] at ha; cases ha
 | some d =>
  rw [hu] at ha
  refine run_loadVar_mid w n off t _ d (fun j v hv=>?_) (und_ok hu) ?_ ?_
  ·rw [cell_at hb]
   have hj : j < sz := by have := (List.getElem?_eq_some_iff.1 hv).1; omega
   rw [List.getElem?_take_of_lt hj,List.getElem?_drop] at hv
   exact hv
  ·cases d <;> first | rfl | (simp at ha)
  ·rw [hlen]
   obtain ⟨i,hi,rfl⟩ := sizeT_ok (P := P) hn
   rw [hi]; rfl
theorem load_one {t : TypeId} {cs : List Value} {off n : Nat} {v : Value} {bt : TypeId} (ha : isAggT T t = some false) (hv : cs[off]? = some v) (hb : w.heap[n]? = some (.cells cs.toArray bt (0,0))) :
  (loadVar t ⟨n,off,none⟩).run P w = .ok v w := by
 unfold loadVar
 simp only [Sem.run_bind,run_isAggT ha w,Result.andThen_ok]
 simp [load,Sem.run,cell_at hb,hv]
theorem load_ok {t : TypeId} {ls : List Leaf} {cs : List Value} {off n : Nat} {z : SA} {bt : TypeId} (h : partS T t ls off = some z) (hs : sats ρ E ls cs) (hb : w.heap[n]? = some (.cells cs.toArray bt (0,0))) :
  ∃ v,(loadVar t ⟨n,off,none⟩).run P w = .ok v w ∧ z.sat ρ E v := by
 unfold partS at h
 split at h
 ·rename_i ha
  split at h
  ·rename_i sz hn
   split at h
   ·rename_i hle
    obtain rfl : SA.agg ((ls.drop off).take sz) = z := by injection h
    have hl := sats_le hs
    exact ⟨_,load_agg ha hn (by omega) hb,_,rfl,by rw [take_drop_len hle,take_drop_len (by omega)],sats_take sz (sats_drop off hs)⟩
   ·cases h
  ·cases h
 ·rename_i ha
  cases hl : ls[off]? with
  | none=>rw [hl] at h; cases h
  | some l =>
   rw [hl] at h
   obtain rfl : SA.one l = z := by simpa using h
   obtain ⟨v,hv,hsat⟩ := sats_get hs hl
   exact ⟨v,load_one ha hv hb,hsat⟩
 ·cases h
def placeV (cells : List Value) (off : Nat) : List Value → List Value
 | []=>cells
 | v :: vs=>placeV (cells.set off v) (off + 1) vs
theorem placeV_len : ∀ (vs : List Value) (cs : List Value) (off : Nat),(placeV cs off vs).length = cs.length
 | [],_,_=>rfl
 | v :: vs,cs,off=>by rw [placeV,placeV_len vs,List.length_set]
theorem place_len : ∀ (vs : List Leaf) (cs : List Leaf) (off : Nat),(place cs off vs).length = cs.length
 | [],_,_=>rfl
 | v :: vs,cs,off=>by rw [place,place_len vs,List.length_set]
theorem place_ok : ∀ {us : List Leaf} {vs : List Value} {ls : List Leaf} {cs : List Value} (off : Nat),us.length = vs.length → sats ρ E us vs → sats ρ E ls cs → sats ρ E (place ls off us) (placeV cs off vs)
 | [],[],_,_,_,_,_,h=>h
 | _ :: _,_ :: _,_,_,off,hl,hu,h=>place_ok (off + 1) (by simpa using hl) hu.2 (sats_set off h hu.1)
 | [],_ :: _,_,_,_,hl,_,_=>by simp at hl
 | _ :: _,[],_,_,_,_,h,_=>h.elim
theorem placeV_mid : ∀ (vs : List Value) (cs : List Value) (off : Nat),off + vs.length ≤ cs.length → placeV cs off vs = cs.take off ++ (vs ++ cs.drop (off + vs.length))
 | [],cs,off,_=>by simp [placeV]
 | v :: vs,cs,off,h=>by
  simp only [List.length_cons] at h
  rw [placeV,placeV_mid vs _ _ (by rw [List.length_set]; omega)]
  rw [List.take_set,List.drop_set_of_lt (by omega)]
  have h1 : (cs.take (off + 1)).set off v = cs.take off ++ [v] := by
   rw [List.take_add_one,List.set_append_right _ _ (by simp; omega)]
   have h2 : off - (cs.take off).length = 0 := by simp; omega
   rw [h2]
   have h3 : off < cs.length := by omega
   simp [List.getElem?_eq_getElem h3]
  rw [h1]
  simp [Nat.add_assoc,Nat.add_comm 1 vs.length]
theorem setCell_heap {n : Nat} {t : TypeId} {cs : List Value} (h : w.heap[n]? = some (.cells cs.toArray t (0,0))) (o : Nat) (v : Value) :
  (w.setCell ⟨n,o,none⟩ v).heap[n]? = some (.cells (cs.set o v).toArray t (0,0)) ∧ (w.setCell ⟨n,o,none⟩ v).heap.size = w.heap.size ∧ ∀ g,g ≠ n → (w.setCell ⟨n,o,none⟩ v).heap[g]? = w.heap[g]? := by
 refine ⟨?_,by simp [World.setCell],fun g hg=>?_⟩
 ·simp only [World.setCell,Array.getElem?_modify,if_true,h,Option.map_some]
  simp
 ·simp only [World.setCell,Array.getElem?_modify]
  rw [if_neg (fun h=>hg h.symm)]
theorem setCells_heap {n : Nat} {t : TypeId} : ∀ (vs : List Value) {cs : List Value} {w : World} (o : Nat),w.heap[n]? = some (.cells cs.toArray t (0,0)) →
  (w.setCells n o vs).heap[n]? = some (.cells (placeV cs o vs).toArray t (0,0)) ∧ (w.setCells n o vs).heap.size = w.heap.size ∧ ∀ g,g ≠ n → (w.setCells n o vs).heap[g]? = w.heap[g]?
 | [],_,_,_,h=>⟨h,rfl,fun _ _=>rfl⟩
 | v :: vs,cs,w,o,h=>by
  obtain ⟨h1,h2,h3⟩ := setCell_heap h o v
  obtain ⟨k1,k2,k3⟩ := setCells_heap vs (o + 1) h1
  exact ⟨k1,k2.trans h2,fun g hg=>(k3 g hg).trans (h3 g hg)⟩
theorem plain_one {v : Value} (h : Plain v) : v.oneCell' = true := by
 cases v with
 | agg cs=>exact absurd rfl (h.1 cs)
 | tuple vs=>exact absurd rfl (h.2 vs)
 | _=>rfl
theorem there_of {n off k : Nat} {cs : List Value} {bt : TypeId} (hb : w.heap[n]? = some (.cells cs.toArray bt (0,0))) (hle : off + k ≤ cs.length) : w.there n off k := fun j hj=>by
 rw [cell_at hb]
 refine ⟨by rw [List.getElem?_eq_getElem (by omega)]; rfl,by simp [World.frozen?,hb]⟩
theorem run_storeAt {t bt : TypeId} {v : Value} {cs : List Value} {off n sz : Nat} (hsz : sizeT T t = some sz) (hl : v.cells.toList.length = sz) (hle : off + sz ≤ cs.length)
  (hf : ∀ x ∈ v.cells.toList,Plain x) (hb : w.heap[n]? = some (.cells cs.toArray bt (0,0))) :
  (Instr.storeAt t (.pointer (some ⟨n,off,none⟩)) v).run P w = .ok () (w.setCells n off v.cells.toList) := by
 have hst := run_storeCells_cells (P := P) n off v.cells.toList 0 w (fun j hj=>by have := (there_of hb (k := sz) hle j (by omega)).1; simpa using this)
  (fun j hj=>by have := (there_of hb (k := sz) hle j (by omega)).2; simpa using this) (fun x hx=>plain_one (hf x hx))
 simp only [Nat.add_zero] at hst
 have hs : v.cells.size = sz := by simpa using hl
 simp only [Instr.storeAt,Instr.sureAddr,storeVar,Sem.run_bind,Sem.run_pure,Result.andThen_ok,run_sizeT hsz w,hs,ne_eq,not_true,if_false]
 exact hst
end
def more (ρ : Map) (i : Nat) (L : Loc) : Map := fun j=>if j = i then some L else ρ j
theorem more_self {ρ : Map} {i : Nat} {L : Loc} : more ρ i L i = some L := if_pos rfl
theorem more_ne {ρ : Map} {i j : Nat} {L : Loc} (h : j ≠ i) : more ρ i L j = ρ j := if_neg h
theorem more_le {ρ : Map} {i : Nat} {L : Loc} (h : ρ i = none) : Le ρ (more ρ i L) := fun j K hj=>by
 rw [more_ne (fun e=>by rw [e,h] at hj; cases hj)]; exact hj
section
variable {P : Program} {T : Tys} [TyOk P T] {O : Objs} {I : Nat → Int} {X : Nat → List Int → Int} {ρ : Map} {E : Nat → Int} {w w' : World} {m : Mem} {g : Gl}
theorem getB_ok {id : Nat} {b : SB} (h : getB m id = some b) : b ∈ m.bs ∧ b.id = id ∧ b.obj = none ∧ b.cs = [] := by
 unfold getB at h
 split at h
 ·rename_i b' hf
  split at h
  ·rename_i ho
   obtain rfl : b' = b := by injection h
   exact ⟨List.mem_of_find?_eq_some hf,by simpa using List.find?_some hf,ho⟩
  ·cases h
 ·cases h
theorem allC_nil {E : Nat → Int} {b : SB} (h : b.cs = []) : allC E b.cs = true := by rw [h]; rfl
theorem M.plain (h : M O ρ E m.bs w) {b : SB} (hb : b ∈ m.bs) (ho : b.obj = none ∧ b.cs = []) : ∃ L vs,ρ b.id = some L ∧ sats ρ E b.cells vs ∧ (∀ x,L.own x ↔ x = L.n) ∧ vs.length = L.tot ∧ ∃ t,w.heap[L.n]? = some (.cells vs.toArray t (0,0)) ∧ L.val = tyV t := by
 obtain ⟨L,vs,h1,h2,h3⟩ := h.blk b hb (allC_nil ho.2)
 simp only [ho.1] at h3
 exact ⟨L,vs,h1,h2,h3⟩
theorem St.newB {t : TypeId} {ls : List Leaf} : St I X E g g m (newB m t ls) :=
 ⟨id,Nat.le_succ _,fun b hb=>by
  rcases List.mem_cons.1 hb with rfl | hb
  ·exact .inr ⟨Nat.le_refl _,Nat.lt_succ_self _⟩
  ·exact .inl ⟨b,hb,rfl⟩,fun h=>⟨List.pairwise_cons.2 ⟨fun b hb=>h.2 b hb,h.1⟩,fun b hb=>by
  rcases List.mem_cons.1 hb with rfl | hb
  ·exact Nat.lt_succ_self _
  ·exact Nat.lt_succ_of_lt (h.2 b hb)⟩⟩
theorem setB_ids {id : Nat} {cs : List Leaf} : (setB m id cs).bs.map (·.id) = m.bs.map (·.id) := by
 unfold setB
 simp only [List.map_map]
 refine List.map_congr_left fun b _=>?_
 simp only [Function.comp]
 split <;> rfl
theorem wf_ids {m' : Mem} (h : WF m) (hi : (m'.bs.map (·.id)).Sublist (m.bs.map (·.id))) (hn : m.nb ≤ m'.nb) : WF m' := by
 have h1 : (m.bs.map (·.id)).Pairwise (fun a b=>b < a) := List.pairwise_map.2 h.1
 refine ⟨List.pairwise_map.1 (h1.sublist hi),fun b hb=>?_⟩
 have : b.id ∈ m.bs.map (·.id) := hi.subset (List.mem_map.2 ⟨b,hb,rfl⟩)
 obtain ⟨b0,hb0,e⟩ := List.mem_map.1 this
 have := h.2 b0 hb0
 omega
theorem St.of_ids {m' : Mem} {g g' : Gl} (hg : Good I X E g' → Good I X E g) (hi : (m'.bs.map (·.id)).Sublist (m.bs.map (·.id))) (hn : m.nb ≤ m'.nb) : St I X E g g' m m' :=
 ⟨hg,hn,fun b hb=>by
  have : b.id ∈ m.bs.map (·.id) := hi.subset (List.mem_map.2 ⟨b,hb,rfl⟩)
  obtain ⟨b0,hb0,e⟩ := List.mem_map.1 this
  exact .inl ⟨b0,hb0,e⟩,fun h=>wf_ids h hi hn⟩
theorem St.setB {g' : Gl} (hg : Good I X E g' → Good I X E g) {id : Nat} {cs : List Leaf} : St I X E g g' m (setB m id cs) :=
 St.of_ids hg (by rw [setB_ids]; exact List.Sublist.refl _) (Nat.le_refl _)
theorem alloc_ok (h : M O ρ E m.bs w) (hw : WF m) (hf : ρ m.nb = none) {t : TypeId} {ls : List Leaf} {vs : List Value} (hs : sats ρ E ls vs)
  (hh : w'.heap = w.heap.push (.cells vs.toArray t (0,0))) (hio : Go.RowKit.Below 0 w w') :
  ∃ ρ',ρ' m.nb = some ⟨w.heap.size,vs.length,fun x=>x = w.heap.size,tyV t⟩ ∧ M O ρ' E (newB m t ls).bs w' ∧ Ext ρ ρ' m (newB m t ls) w w' := by
 have hle := (more_le (L := ⟨w.heap.size,vs.length,fun x=>x = w.heap.size,tyV t⟩) hf).lk
 have hsz : w'.heap.size = w.heap.size + 1 := by rw [hh]; simp
 have hold : ∀ n,n < w.heap.size → w'.heap[n]? = w.heap[n]? := fun n hn=>by rw [hh,Array.getElem?_push_lt hn,← Array.getElem?_eq_getElem hn]
 have hne : ∀ b ∈ m.bs,b.id ≠ m.nb := fun b hb e=>by have := hw.2 b hb; omega
 refine ⟨more ρ m.nb ⟨w.heap.size,vs.length,fun x=>x = w.heap.size,tyV t⟩,more_self,⟨fun b hb hc=>?_,fun b hb b' hb' hc hc' hne' L L' hL hL' x hx hx'=>?_,fun b hb hc L hL x hx=>?_⟩,⟨hle,by omega,fun n hn _=>hold n hn,fun i=>?_,fun i L hi hL x hx=>?_,hio⟩⟩
 ·rcases List.mem_cons.1 hb with rfl | hb
  ·exact ⟨_,vs,more_self,sats_mono hle _ hs,fun _=>Iff.rfl,rfl,t,by rw [hh]; simp,rfl⟩
  ·exact ((h.blk b hb hc).mono hle (more_ne (hne b hb))).keep (by omega) fun L hL x hx=>hold x (h.low b hb hc L (by rw [more_ne (hne b hb)] at hL; exact hL) x hx)
 ·rcases List.mem_cons.1 hb with rfl | hb <;> rcases List.mem_cons.1 hb' with rfl | hb'
  ·exact hne' rfl
  ·rw [more_ne (hne b' hb')] at hL'
   simp only [more_self,Option.some.injEq] at hL
   subst hL
   have := h.low b' hb' hc' L' hL' x hx'
   simp only at hx
   omega
  ·rw [more_ne (hne b hb)] at hL
   simp only [more_self,Option.some.injEq] at hL'
   subst hL'
   have := h.low b hb hc L hL x hx
   simp only at hx'
   omega
  ·rw [more_ne (hne b hb)] at hL
   rw [more_ne (hne b' hb')] at hL'
   exact h.disj b hb b' hb' hc hc' hne' L L' hL hL' x hx hx'
 ·rcases List.mem_cons.1 hb with rfl | hb
  ·simp only [more_self,Option.some.injEq] at hL
   subst hL
   simp only at hx
   omega
  ·rw [more_ne (hne b hb)] at hL
   have := h.low b hb hc L hL x hx
   omega
 ·by_cases hi : i = m.nb
  ·subst hi; exact .inl (.inl ⟨Nat.le_refl _,Nat.lt_succ_self _⟩)
  ·exact .inr (more_ne hi)
 ·by_cases he : i = m.nb
  ·subst he
   simp only [more_self,Option.some.injEq] at hi
   subst hi
   simp only at hx
   exact .inl (by omega)
  ·exact absurd (more_ne he) hL
theorem store_ok (h : M O ρ E m.bs w) (hw : WF m) {b : SB} (hb : b ∈ m.bs) (ho : b.obj = none ∧ b.cs = []) {L : Loc} (hL : ρ b.id = some L) {ls : List Leaf} {vs : List Value} (hs : sats ρ E ls vs) (hl : vs.length = L.tot)
  {bt : TypeId} (hty : L.val = tyV bt) (hcell : w'.heap[L.n]? = some (.cells vs.toArray bt (0,0))) (hz : w'.heap.size = w.heap.size) (hk : ∀ x,x ≠ L.n → w'.heap[x]? = w.heap[x]?) (hio : Go.RowKit.Below 0 w w') :
  M O ρ E (setB m b.id ls).bs w' ∧ Ext ρ ρ m (setB m b.id ls) w w' := by
 obtain ⟨L0,vs0,hL0,_,hown,_,_⟩ := h.plain hb ho
 obtain rfl : L0 = L := by rw [hL] at hL0; injection hL0 with e; exact e.symm
 have pick : ∀ x ∈ (setB m b.id ls).bs,(x = { b with cells := ls }) ∨ (x ∈ m.bs ∧ x.id ≠ b.id) := fun x hx=>by
  obtain ⟨y,hy,rfl⟩ := List.mem_map.1 hx
  by_cases he : y.id = b.id
  ·obtain rfl := hw.uniq hy hb he
   left; simp
  ·right
   have : (y.id == b.id) = false := by simpa using he
   simp only [this,Bool.false_eq_true,if_false]
   exact ⟨hy,he⟩
 have back : ∀ x ∈ (setB m b.id ls).bs,∃ y ∈ m.bs,y.id = x.id := fun x hx=>by
  rcases pick x hx with rfl | ⟨hx,_⟩
  ·exact ⟨b,hb,rfl⟩
  ·exact ⟨x,hx,rfl⟩
 have backc : ∀ x ∈ (setB m b.id ls).bs,∀ y ∈ m.bs,y.id = x.id → x.cs = y.cs := fun x hx y hy e=>by
  rcases pick x hx with rfl | ⟨hx,_⟩
  ·obtain rfl := hw.uniq hy hb e
   rfl
  ·rw [hw.uniq hy hx e]
 refine ⟨⟨fun x hx hc=>?_,fun x hx y hy hc hc' hne K K' hK hK'=>?_,fun x hx hc K hK z hz'=>?_⟩,Lk.rfl',by omega,fun n hn hno=>hk n fun e=>hno b hb L0 hL (by rw [e]; exact (hown _).2 rfl),fun _=>.inr rfl,fun _ _ _ h2=>absurd rfl h2,hio⟩
 ·rcases pick x hx with rfl | ⟨hx,hne⟩
  ·exact ⟨L0,vs,hL,hs,by simp only [ho.1]; exact ⟨hown,hl,bt,hcell,hty⟩⟩
  ·refine (h.blk x hx hc).keep (by omega) fun K hK z hz'=>hk z fun e=>?_
   subst e
   exact h.disj x hx b hb hc (allC_nil ho.2) hne K L0 hK hL _ hz' ((hown _).2 rfl)
 ·obtain ⟨x',hx',ex⟩ := back x hx
  obtain ⟨y',hy',ey⟩ := back y hy
  exact h.disj x' hx' y' hy' (by rw [← backc x hx x' hx' ex]; exact hc) (by rw [← backc y hy y' hy' ey]; exact hc') (by rw [ex,ey]; exact hne) K K' (by rw [ex]; exact hK) (by rw [ey]; exact hK')
 ·obtain ⟨x',hx',ex⟩ := back x hx
  rw [hz]
  exact h.low x' hx' (by rw [← backc x hx x' hx' ex]; exact hc) K (by rw [ex]; exact hK) z hz'
end
section
variable {P : Program} {T : Tys} [TyOk P T] {O : Objs} {I : Nat → Int} {X : Nat → List Int → Int} {ρ : Map} {E : Nat → Int} {w w' : World} {m m' : Mem} {g g' : Gl}
theorem intsOf_ok {k : IntKind} : ∀ {ls : List Leaf} {rs : List Ref},intsOf k ls = some rs → ls = rs.map (Leaf.int k)
 | [],rs,h=>by
  obtain rfl : [] = rs := by simpa [intsOf] using h
  rfl
 | .int k' r :: ls,rs,h=>by
  simp only [intsOf] at h
  split at h
  ·rename_i hk; subst hk
   cases hr : intsOf k' ls with
   | none=>rw [hr] at h; cases h
   | some qs =>
    rw [hr] at h
    obtain rfl : r :: qs = rs := by simpa using h
    rw [intsOf_ok hr]; rfl
  ·cases h
 | .bool _ :: _,_,h=>by cases h
 | .ptr _ _ :: _,_,h=>by cases h
 | .pdx _ _ _ _ _ :: _,_,h=>by cases h
 | .slc _ _ _ _ :: _,_,h=>by cases h
 | .slu _ _ _ _ :: _,_,h=>by cases h
 | .sla _ _ _ :: _,_,h=>by cases h
 | .opq _ :: _,_,h=>by cases h
 | .opl _ _ :: _,_,h=>by cases h
 | .nilP :: _,_,h=>by cases h
 | .nilI :: _,_,h=>by cases h
 | .nilS :: _,_,h=>by cases h
 | .nilF :: _,_,h=>by cases h
 | .ifc _ _ :: _,_,h=>by cases h
 | .fn _ _ :: _,_,h=>by cases h
 | .cons _ _ :: _,_,h=>by cases h
 | .mix _ _ _ :: _,_,h=>by cases h
 | .junk :: _,_,h=>by cases h
theorem boolsOf_ok : ∀ {ls : List Leaf} {rs : List Ref},boolsOf ls = some rs → ls = rs.map Leaf.bool
 | [],rs,h=>by
  obtain rfl : [] = rs := by simpa [boolsOf] using h
  rfl
 | .bool r :: ls,rs,h=>by
  simp only [boolsOf] at h
  cases hr : boolsOf ls with
  | none=>rw [hr] at h; cases h
  | some qs =>
   rw [hr] at h
   obtain rfl : r :: qs = rs := by simpa using h
   rw [boolsOf_ok hr]; rfl
 | .int _ _ :: _,_,h=>by cases h
 | .ptr _ _ :: _,_,h=>by cases h
 | .pdx _ _ _ _ _ :: _,_,h=>by cases h
 | .slc _ _ _ _ :: _,_,h=>by cases h
 | .slu _ _ _ _ :: _,_,h=>by cases h
 | .sla _ _ _ :: _,_,h=>by cases h
 | .opq _ :: _,_,h=>by cases h
 | .opl _ _ :: _,_,h=>by cases h
 | .nilP :: _,_,h=>by cases h
 | .nilI :: _,_,h=>by cases h
 | .nilS :: _,_,h=>by cases h
 | .nilF :: _,_,h=>by cases h
 | .ifc _ _ :: _,_,h=>by cases h
 | .fn _ _ :: _,_,h=>by cases h
 | .cons _ _ :: _,_,h=>by cases h
 | .mix _ _ _ :: _,_,h=>by cases h
 | .junk :: _,_,h=>by cases h
theorem selCol_ok {col : List Leaf} {i : Ref} {l : Leaf} (h : selCol col i g = some (l,g')) : (Good I X E g' → Good I X E g) ∧
  (Good I X E g' → ∀ ρ x v,col[(i.val E).toNat]? = some x → x.sat ρ E v → l.sat ρ E v) := by
 unfold selCol at h
 split at h
 ·cases h
 ·rename_i l0 rest
  split at h
  ·rename_i hall
   injection h with h; injection h with e1 e2; subst e1; subst e2
   refine ⟨id,fun _ ρ x v hx hs=>?_⟩
   have : x ∈ l0 :: rest := List.mem_of_getElem? hx
   rcases List.mem_cons.1 this with rfl | hm
   ·exact hs
   ·have := List.all_eq_true.1 hall x hm
    obtain rfl : x = l0 := by simpa using this
    exact hs
  ·split at h
   ·rename_i k _ _
    split at h
    ·rename_i rs hr
     rcases hp : g.push (.sel rs i) with ⟨r,g1⟩
     rw [hp] at h
     injection h with h; injection h with e1 e2; subst e1; subst e2
     refine ⟨fun H=>(push_ok hp H).1,fun H ρ x v hx hs=>?_⟩
     have hv := (push_ok hp H).2
     rw [intsOf_ok hr,List.getElem?_map] at hx
     cases hq : rs[(i.val E).toNat]? with
     | none=>rw [hq] at hx; cases hx
     | some q =>
      rw [hq] at hx
      obtain rfl : Leaf.int k q = x := by simpa using hx
      simp only [Leaf.sat] at hs ⊢
      rw [hs,hv]
      simp only [Df.den,List.getD_eq_getElem?_getD,hq,Option.getD_some]
    ·cases h
   ·split at h
    ·rename_i rs hr
     rcases hp : g.push (.sel rs i) with ⟨r,g1⟩
     rw [hp] at h
     injection h with h; injection h with e1 e2; subst e1; subst e2
     refine ⟨fun H=>(push_ok hp H).1,fun H ρ x v hx hs=>?_⟩
     have hv := (push_ok hp H).2
     rw [boolsOf_ok hr,List.getElem?_map] at hx
     cases hq : rs[(i.val E).toNat]? with
     | none=>rw [hq] at hx; cases hx
     | some q =>
      rw [hq] at hx
      obtain rfl : Leaf.bool q = x := by simpa using hx
      simp only [Leaf.sat] at hs ⊢
      rw [hs,hv]
      simp only [Df.den,List.getD_eq_getElem?_getD,hq,Option.getD_some]
    ·cases h
   ·cases h
theorem selCols_ok : ∀ {n : Nat} {rows : List (List Leaf)} {i : Ref} {ls : List Leaf} {g g' : Gl},selCols n rows i g = some (ls,g') → (Good I X E g' → Good I X E g) ∧ ls.length = n ∧
  (Good I X E g' → ∀ ρ row vs,rows[(i.val E).toNat]? = some row → n ≤ row.length → sats ρ E row vs → sats ρ E ls vs)
 | 0,rows,i,ls,g,g',h=>by
  simp only [selCols] at h
  injection h with h; injection h with e1 e2; subst e1; subst e2
  exact ⟨id,rfl,fun _ _ _ _ _ _ _=>trivial⟩
 | n + 1,rows,i,ls,g,g',h=>by
  simp only [selCols] at h
  split at h
  ·rename_i l g1 h1
   split at h
   ·rename_i ls1 g2 h2
    injection h with h; injection h with e1 e2; subst e1; subst e2
    obtain ⟨k1,k2⟩ := selCol_ok (I := I) (X := X) (E := E) h1
    obtain ⟨q1,q2,q3⟩ := selCols_ok h2
    refine ⟨fun H=>k1 (q1 H),by rw [List.length_cons,q2],fun H ρ row vs hr hl hs=>?_⟩
    cases row with
    | nil=>simp at hl
    | cons x row =>
     cases vs with
     | nil=>exact hs.elim
     | cons v vs =>
      refine ⟨k2 (q1 H) ρ x v ?_ hs.1,q3 H ρ row vs ?_ (by simpa using hl) hs.2⟩
      ·rw [List.getElem?_map,hr]; rfl
      ·rw [List.getElem?_map,hr]; rfl
   ·cases h
  ·cases h
theorem rowsOf_get {stride size : Nat} : ∀ {n : Nat} {cs : List Leaf} {j : Nat},j < n → (rowsOf stride size n cs)[j]? = some ((cs.drop (stride * j)).take size)
 | n + 1,cs,0,_=>by simp [rowsOf]
 | n + 1,cs,j + 1,h=>by
  simp only [rowsOf,List.getElem?_cons_succ]
  rw [rowsOf_get (by omega),List.drop_drop]
  congr 3
  rw [Nat.mul_succ]; omega
theorem partD_ok {t : TypeId} {ls : List Leaf} {off stride n : Nat} {i : Ref} {z : SA} (h : partD T t ls off stride n i g = some (z,g')) : (Good I X E g' → Good I X E g) ∧
  (Good I X E g' → ∀ ρ vs,sats ρ E ls vs → (i.val E).toNat < n →
   (∃ sz,isAggT T t = some true ∧ sizeT T t = some sz ∧ off + stride * (i.val E).toNat + sz ≤ vs.length ∧ z.sat ρ E (.agg ((vs.drop (off + stride * (i.val E).toNat)).take sz).toArray)) ∨
   (isAggT T t = some false ∧ ∃ v,vs[off + stride * (i.val E).toNat]? = some v ∧ z.sat ρ E v)) := by
 have inside : ∀ {j : Nat},j < n → stride * j + stride ≤ stride * n := fun {j} hj=>by
  rw [← Nat.mul_succ]; exact Nat.mul_le_mul_left _ hj
 unfold partD at h
 split at h
 ·rename_i ha
  split at h
  ·rename_i sz hsz
   split at h
   ·rename_i hc
    split at h
    ·rename_i ks g1 h1
     injection h with h; injection h with e1 e2; subst e1; subst e2
     obtain ⟨q1,q2,q3⟩ := selCols_ok (I := I) (X := X) (E := E) h1
     refine ⟨q1,fun H ρ vs hs hj=>.inl ⟨sz,ha,hsz,?_,?_⟩⟩
     ·have := sats_le hs; have := inside hj; omega
     ·have hl := sats_le hs
      have hi := inside hj
      refine ⟨_,rfl,?_,?_⟩
      ·rw [q2,take_drop_len (by omega)]
      ·refine q3 H ρ _ _ (rowsOf_get hj) ?_ ?_
       ·rw [List.drop_drop,take_drop_len (by omega)]; exact Nat.le_refl _
       ·rw [List.drop_drop]; exact sats_take sz (sats_drop _ hs)
    ·cases h
   ·cases h
  ·cases h
 ·rename_i ha
  split at h
  ·rename_i hc
   split at h
   ·rename_i l g1 h1
    injection h with h; injection h with e1 e2; subst e1; subst e2
    obtain ⟨q1,q2,q3⟩ := selCols_ok (I := I) (X := X) (E := E) h1
    refine ⟨q1,fun H ρ vs hs hj=>.inr ⟨ha,?_⟩⟩
    have hl := sats_le hs
    have hi := inside hj
    have hlt : off + stride * (i.val E).toNat < vs.length := by omega
    refine ⟨_,List.getElem?_eq_getElem hlt,?_⟩
    have := q3 H ρ _ ((vs.drop (off + stride * (i.val E).toNat)).take 1) (rowsOf_get hj) (by rw [List.drop_drop,take_drop_len (by omega)]; exact Nat.le_refl _) (by rw [List.drop_drop]; exact sats_take 1 (sats_drop _ hs))
    rw [List.drop_eq_getElem_cons hlt] at this
    exact this.1
   ·cases h
  ·cases h
 ·cases h
theorem run_loadAt_of {t : TypeId} {n o : Nat} {u : Value} (h : (loadVar t ⟨n,o,none⟩).run P w = .ok u w) : (Instr.loadAt t (.pointer (some ⟨n,o,none⟩))).run P w = .ok u w := by
 simp only [Instr.loadAt,Instr.sureAddr,Sem.run_bind,Sem.run_pure,Result.andThen_ok,h]
theorem loadL_ok {t : TypeId} : ∀ {l : Leaf} {z : SA} {g g' : Gl},loadL T t m l g = some (z,g') → (Good I X E g' → Good I X E g) ∧
  (Good I X E g' → ∀ O ρ w v,M O ρ E m.bs w → l.sat ρ E v → ∃ u,(Instr.loadAt t v).run P w = .ok u w ∧ z.sat ρ E u) := by
 intro l
 induction l with
 | ptr id off =>
  intro z g g' h
  simp only [loadL] at h
  split at h
  ·rename_i b hb
   obtain ⟨h1,h2,h3⟩ := getB_ok hb
   cases hp : partS T t b.cells off with
   | none=>rw [hp] at h; cases h
   | some z' =>
    rw [hp] at h
    injection h with h; injection h with e1 e2; subst e1; subst e2
    refine ⟨fun H=>H,fun _ O ρ w v hM hv=>?_⟩
    obtain ⟨L,hL,rfl⟩ := hv
    obtain ⟨L',vs,k1,k2,k3,k4,bt5,k5,kty⟩ := hM.plain h1 h3
    rw [h2,hL] at k1
    obtain rfl : L = L' := by injection k1
    obtain ⟨u,hu,hz⟩ := load_ok (P := P) hp k2 k5
    exact ⟨u,run_loadAt_of hu,hz⟩
  ·cases h
 | pdx id off stride n i =>
  intro z g g' h
  simp only [loadL] at h
  split at h
  ·rename_i b hb
   obtain ⟨h1,h2,h3⟩ := getB_ok hb
   obtain ⟨q1,q2⟩ := partD_ok (I := I) (X := X) (E := E) h
   refine ⟨q1,fun H O ρ w v hM hv=>?_⟩
   obtain ⟨L,hL,_,hj,rfl⟩ := hv
   obtain ⟨L',vs,k1,k2,k3,k4,bt5,k5,kty⟩ := hM.plain h1 h3
   rw [h2,hL] at k1
   obtain rfl : L = L' := by injection k1
   rcases q2 H ρ vs k2 hj with ⟨sz,ha,hsz,hle,hz⟩ | ⟨ha,u,hu,hz⟩
   ·exact ⟨_,run_loadAt_of (load_agg ha hsz hle k5),hz⟩
   ·exact ⟨_,run_loadAt_of (load_one ha hu k5),hz⟩
  ·cases h
 | mix c a b iha ihb =>
  intro z g g' h
  simp only [loadL] at h
  split at h
  ·rename_i x g1 h1
   split at h
   ·rename_i y g2 h2
    split at h
    ·rename_i z' g3 h3
     injection h with h; injection h with e1 e2; subst e1; subst e2
     obtain ⟨a1,a2⟩ := iha h1
     obtain ⟨b1,b2⟩ := ihb h2
     refine ⟨fun H=>a1 (b1 (joinA_ok h3 H).1),fun H O ρ w v hM hv=>?_⟩
     obtain ⟨H2,j⟩ := joinA_ok h3 H
     cases hc : truth (c.val E)
     ·obtain ⟨u,hu,hz⟩ := b2 H2 O ρ w v hM (hv.2 hc)
      exact ⟨u,hu,j z' rfl ρ u (fun h=>by rw [hc] at h; cases h) (fun _=>hz)⟩
     ·obtain ⟨u,hu,hz⟩ := a2 (b1 H2) O ρ w v hM (hv.1 hc)
      exact ⟨u,hu,j z' rfl ρ u (fun _=>hz) (fun h=>by rw [hc] at h; cases h)⟩
    ·cases h
   ·cases h
  ·cases h
 | _=>intro z g g' h; simp only [loadL] at h; cases h
theorem joinPre_ok {c : Ref} : ∀ {vs os ls : List Leaf} {g g' : Gl},joinPre c vs os g = (ls,g') → (Good I X E g' → Good I X E g) ∧ ls.length = os.length ∧
  (Good I X E g' → ∀ ρ xs ys,vs.length ≤ os.length → vs.length = xs.length → (truth (c.val E) = true → sats ρ E vs xs) → sats ρ E os ys → sats ρ E ls (if truth (c.val E) = true then xs ++ ys.drop xs.length else ys))
 | v :: vs,o :: os,ls,g,g',h=>by
  simp only [joinPre] at h
  rcases h1 : joinL c v o g with ⟨l,g1⟩
  rcases h2 : joinPre c vs os g1 with ⟨ks,g2⟩
  rw [h1] at h
  simp only [h2] at h
  injection h with e1 e2; subst e1; subst e2
  obtain ⟨q1,q2,q3⟩ := joinPre_ok h2
  refine ⟨fun H=>(joinL_ok h1 (q1 H)).1,by simp [q2],fun H ρ xs ys hle hl hv ho=>?_⟩
  cases xs with
  | nil=>simp at hl
  | cons x xs =>
   cases ys with
   | nil=>exact ho.elim
   | cons y ys =>
    have j := (joinL_ok h1 (q1 H)).2 ρ
    have q := q3 H ρ xs ys (by simpa using hle) (by simpa using hl) (fun hc=>(hv hc).2) ho.2
    cases hc : truth (c.val E)
    ·simp only [hc,Bool.false_eq_true,if_false] at q ⊢
     exact ⟨j y (fun h=>by rw [hc] at h; cases h) (fun _=>ho.1),q⟩
    ·simp only [hc,if_true] at q ⊢
     exact ⟨j x (fun _=>(hv hc).1) (fun h=>by rw [hc] at h; cases h),by simpa using q⟩
 | [],os,ls,g,g',h=>by
  have h : (os,g) = (ls,g') := by cases os <;> simpa [joinPre] using h
  injection h with e1 e2; subst e1; subst e2
  refine ⟨id,rfl,fun H ρ xs ys _ hl _ ho=>?_⟩
  cases xs with
  | nil=>simpa using ho
  | cons _ _=>simp at hl
 | _ :: _,[],ls,g,g',h=>by
  simp only [joinPre] at h
  injection h with e1 e2; subst e1; subst e2
  exact ⟨id,rfl,fun H ρ xs ys hle=>by simp at hle⟩
theorem putDyn_ok {i : Ref} {vs : List Leaf} {stride : Nat} : ∀ {n j : Nat} {cs ls : List Leaf} {g g' : Gl},putDyn i vs stride j n cs g = (ls,g') → (Good I X E g' → Good I X E g) ∧
  (stride * n ≤ cs.length → ls.length = cs.length) ∧
  (Good I X E g' → ∀ ρ xs ys,vs.length ≤ stride → stride * n ≤ cs.length → vs.length = xs.length → sats ρ E vs xs → sats ρ E cs ys → 0 ≤ i.val E →
   (∀ k : Nat,i.val E = (j + k : Nat) → k < n → sats ρ E ls (ys.take (stride * k) ++ (xs ++ ys.drop (stride * k + xs.length)))) ∧
   ((i.val E < j ∨ (j + n : Nat) ≤ i.val E) → sats ρ E ls ys))
 | 0,j,cs,ls,g,g',h=>by
  simp only [putDyn] at h
  injection h with e1 e2; subst e1; subst e2
  exact ⟨id,fun _=>rfl,fun H ρ xs ys _ _ _ _ ho _=>⟨fun k _ hk=>by omega,fun _=>ho⟩⟩
 | n + 1,j,cs,ls,g,g',h=>by
  simp only [putDyn] at h
  rcases h0 : g.bin .eql .i64 i (.c j) with ⟨c,g1⟩
  rw [h0] at h
  simp only at h
  rcases h1 : joinPre c vs (cs.take stride) g1 with ⟨a,g2⟩
  rw [h1] at h
  simp only at h
  rcases h2 : putDyn i vs stride (j + 1) n (cs.drop stride) g2 with ⟨b,g3⟩
  rw [h2] at h
  simp only at h
  injection h with e1 e2; subst e1; subst e2
  obtain ⟨p1,p2,p3⟩ := joinPre_ok (I := I) (X := X) (E := E) h1
  obtain ⟨q1,q2,q3⟩ := putDyn_ok h2
  refine ⟨fun H=>(bin_ok h0 (p1 (q1 H))).1,fun hlen=>?_,fun H ρ xs ys hst hlen hl hx hy hpos=>?_⟩
  ·rw [Nat.mul_succ] at hlen
   rw [List.length_append,p2,q2 (by simp; omega)]
   simp; omega
  ·rw [Nat.mul_succ] at hlen
   have hyl := sats_le hy
   have hta : (cs.take stride).length = stride := by simp; omega
   have hty : (ys.take stride).length = stride := by simp; omega
   have hc : truth (c.val E) = decide (i.val E = (j : Int)) := by
    rw [(bin_ok h0 (p1 (q1 H))).2]
    simp only [intSem,truth_ofB,Ref.val]
    rfl
   have P1 := p3 (q1 H) ρ xs (ys.take stride) (by omega) hl (fun _=>hx) (sats_take stride hy)
   obtain ⟨Q1,Q2⟩ := q3 H ρ xs (ys.drop stride) hst (by simp; omega) hl hx (sats_drop stride hy) hpos
   have glue : ∀ {us ts : List Value},us.length = stride → sats ρ E a us → sats ρ E b ts → sats ρ E (a ++ b) (us ++ ts) := fun {us ts} hu hu' ht =>
    sats_app (by rw [p2,hta,hu]) hu' ht
   have hys : ys = ys.take stride ++ ys.drop stride := (List.take_append_drop stride ys).symm
   refine ⟨fun k hk hkn=>?_,fun hout=>?_⟩
   ·cases k with
    | zero =>
     have hd : decide (i.val E = (j : Int)) = true := by simp; omega
     rw [hc,hd] at P1
     simp only [if_true] at P1
     have hq := Q2 (by left; omega)
     have := glue (us := xs ++ (ys.take stride).drop xs.length) (by rw [List.length_append,List.length_drop,hty]; omega) P1 hq
     simp only [Nat.mul_zero,List.take_zero,List.nil_append,Nat.zero_add]
     rw [List.append_assoc] at this
     have he : (ys.take stride).drop xs.length ++ ys.drop stride = ys.drop xs.length := by
      conv=>rhs; rw [hys]
      rw [List.drop_append_of_le_length (by rw [hty]; omega)]
     rw [he] at this
     exact this
    | succ k =>
     have hd : decide (i.val E = (j : Int)) = false := by simp; omega
     rw [hc,hd] at P1
     simp only [Bool.false_eq_true,if_false] at P1
     have hq := Q1 k (by omega) (by omega)
     have := glue hty P1 hq
     have e1 : ys.take (stride * (k + 1)) = ys.take stride ++ (ys.drop stride).take (stride * k) := by
      rw [Nat.mul_succ,Nat.add_comm,List.take_add]
     have e2 : ys.drop (stride * (k + 1) + xs.length) = (ys.drop stride).drop (stride * k + xs.length) := by
      rw [List.drop_drop]; congr 1; rw [Nat.mul_succ]; omega
     rw [e1,e2,List.append_assoc]
     exact this
   ·have hd : decide (i.val E = (j : Int)) = false := by simp; omega
    rw [hc,hd] at P1
    simp only [Bool.false_eq_true,if_false] at P1
    have hq := Q2 (by omega)
    have := glue hty P1 hq
    rw [← hys] at this
    exact this
theorem setCells_io (n : Nat) : ∀ (vs : List Value) (o : Nat) (w : World),Go.RowKit.Below 0 w (w.setCells n o vs)
 | [],_,w=>Go.RowKit.Below.refl 0 w
 | v :: vs,o,w=>((Go.RowKit.Below.refl 0 w).setCell (Nat.zero_le _) v).trans (setCells_io n vs (o + 1) _)
theorem setCells_placed {n : Nat} {t : TypeId} {cs vs : List Value} {o : Nat} (h : w.heap[n]? = some (.cells cs.toArray t (0,0))) :
  (w.setCells n o vs).heap[n]? = some (.cells (placeV cs o vs).toArray t (0,0)) ∧ (w.setCells n o vs).heap.size = w.heap.size ∧ ∀ g,g ≠ n → (w.setCells n o vs).heap[g]? = w.heap[g]? := setCells_heap vs o h
theorem storeL_ok {t : TypeId} {sz : Nat} {us : List Leaf} (hsz : sizeT T t = some sz) (hul : us.length = sz) (hf : us.all Leaf.firm = true) {l : Leaf} (h : storeL m us l g = some (m',g')) :
  St I X E g g' m m' ∧ (Good I X E g' → ∀ O ρ w v u,M O ρ E m.bs w → WF m → l.sat ρ E v → sats ρ E us u.cells.toList → u.cells.toList.length = us.length →
   ∃ w',(Instr.storeAt t v u).run P w = .ok () w' ∧ M O ρ E m'.bs w' ∧ Ext ρ ρ m m' w w') := by
 have hpl : ∀ {u : Value} {ρ : Map},sats ρ E us u.cells.toList → u.cells.toList.length = us.length → ∀ x ∈ u.cells.toList,Plain x := fun hs hl=>firms_plain hf hs hl.symm
 cases l with
 | ptr id off =>
  simp only [storeL] at h
  split at h
  ·rename_i b hb
   obtain ⟨h1,h2,h3⟩ := getB_ok hb
   split at h
   ·rename_i hle
    injection h with h; injection h with e1 e2; subst e1; subst e2
    refine ⟨St.setB (fun H=>H),fun _ O ρ w v u hM hW hv hs hl=>?_⟩
    obtain ⟨L,hL,rfl⟩ := hv
    obtain ⟨L',vs,k1,k2,k3,k4,bt5,k5,kty⟩ := hM.plain h1 h3
    rw [h2,hL] at k1
    obtain rfl : L = L' := by injection k1
    have hvl := sats_le k2
    obtain ⟨s1,s2,s3⟩ := setCells_placed (o := off) (vs := u.cells.toList) k5
    refine ⟨_,run_storeAt hsz (by omega) (by omega) (hpl hs hl) k5,?_⟩
    rw [← h2]
    exact store_ok hM hW h1 h3 (by rw [h2]; exact hL) (place_ok off hl.symm hs k2) (by rw [placeV_len]; exact k4) kty s1 s2 s3 (setCells_io _ _ _ _)
   ·cases h
  ·cases h
 | pdx id off stride n i =>
  simp only [storeL] at h
  split at h
  ·rename_i b hb
   obtain ⟨h1,h2,h3⟩ := getB_ok hb
   split at h
   ·rename_i hc
    rcases hp : putDyn i us stride 0 n (b.cells.drop off) g with ⟨ls,g1⟩
    rw [hp] at h
    simp only at h
    injection h with h; injection h with e1 e2; subst e1; subst e2
    obtain ⟨q1,q2,q3⟩ := putDyn_ok (I := I) (X := X) (E := E) hp
    refine ⟨St.setB q1,fun H O ρ w v u hM hW hv hs hl=>?_⟩
    obtain ⟨L,hL,hpos,hj,rfl⟩ := hv
    obtain ⟨L',vs,k1,k2,k3,k4,bt5,k5,kty⟩ := hM.plain h1 h3
    rw [h2,hL] at k1
    obtain rfl : L = L' := by injection k1
    have hvl := sats_le k2
    have hin : stride * (i.val E).toNat + stride ≤ stride * n := by rw [← Nat.mul_succ]; exact Nat.mul_le_mul_left _ hj
    obtain ⟨s1,s2,s3⟩ := setCells_placed (o := off + stride * (i.val E).toNat) (vs := u.cells.toList) k5
    refine ⟨_,run_storeAt hsz (by omega) (by omega) (hpl hs hl) k5,?_⟩
    rw [← h2]
    refine store_ok hM hW h1 h3 (by rw [h2]; exact hL) ?_ (by rw [placeV_len]; exact k4) kty s1 s2 s3 (setCells_io _ _ _ _)
    have := (q3 H ρ u.cells.toList (vs.drop off) hc.1 (by simp; omega) hl.symm hs (sats_drop off k2) hpos).1 (i.val E).toNat (by omega) hj
    rw [placeV_mid _ _ _ (by omega)]
    have e1 : vs.take (off + stride * (i.val E).toNat) = vs.take off ++ (vs.drop off).take (stride * (i.val E).toNat) := List.take_add
    have e2 : vs.drop (off + stride * (i.val E).toNat + u.cells.toList.length) = (vs.drop off).drop (stride * (i.val E).toNat + u.cells.toList.length) := by
     rw [List.drop_drop]; congr 1; omega
    rw [e1,e2,List.append_assoc]
    exact sats_app (by simp; omega) (sats_take off k2) this
   ·cases h
  ·cases h
 | _=>simp only [storeL] at h; cases h
end
section
variable {P : Program} {T : Tys} [TyOk P T] {O : Objs} {I : Nat → Int} {X : Nat → List Int → Int} {ρ : Map} {E : Nat → Int} {w w' : World} {m m' : Mem} {g g' : Gl}
theorem run_binInt {op : BinOp} {k : IntKind} {a b : Int} (t : TypeId) (hs : op ≠ .shl ∧ op ≠ .shr) (hd : op = .quo ∨ op = .rem → b ≠ 0) (w : World) :
  (binOp op t (.int k a) (.int k b)).run P w = .ok (if isCmp op = true then .bool (truth (intSem op k a b)) else .int k (intSem op k a b)) w := by
 cases op with
 | shl=>exact absurd rfl hs.1
 | shr=>exact absurd rfl hs.2
 | quo=>have := hd (.inl rfl); simp [binOp,Op.intDiv,isCmp,intSem,this]
 | rem=>have := hd (.inr rfl); simp [binOp,Op.intDiv,isCmp,intSem,this]
 | add=>simp [binOp,Op.intArith,isCmp,intSem]
 | sub=>simp [binOp,Op.intArith,isCmp,intSem]
 | mul=>simp [binOp,Op.intArith,isCmp,intSem]
 | and=>simp [binOp,Op.intBits,isCmp,intSem]
 | or=>simp [binOp,Op.intBits,isCmp,intSem]
 | xor=>simp [binOp,Op.intBits,isCmp,intSem]
 | andNot=>simp [binOp,Op.intBits,isCmp,intSem]
 | eql=>simp [binOp,Op.intCmp,isCmp,intSem,truth_ofB]
 | neq=>simp [binOp,Op.intCmp,isCmp,intSem,truth_ofB]
 | lss=>simp [binOp,Op.intCmp,isCmp,intSem,truth_ofB]
 | leq=>simp [binOp,Op.intCmp,isCmp,intSem,truth_ofB]
 | gtr=>simp [binOp,Op.intCmp,isCmp,intSem,truth_ofB]
 | geq=>simp [binOp,Op.intCmp,isCmp,intSem,truth_ofB]
theorem run_shift {op : BinOp} {k k' : IntKind} {a b : Int} (t : TypeId) (hs : op = .shl ∨ op = .shr) (hb : 0 ≤ b) (w : World) :
  (binOp op t (.int k a) (.int k' b)).run P w = .ok (.int k (intSem op k a b)) w := by
 have hn : ¬ b < 0 := by omega
 rcases hs with rfl | rfl
 ·simp [binOp,Op.shift,intSem,hn]
 ·simp [binOp,Op.shift,intSem,hn]
def Gives (P : Program) (E : Nat → Int) (ρ : Map) (w : World) (v : SV) (s : Go.Sem Value) : Prop := ∃ u,s.run P w = .ok u w ∧ v.sat ρ E u
theorem binInt_ok {pc : Ref} {op : BinOp} {k k' : IntKind} {a b : Ref} {v : SV} (h : binInt pc g op k k' a b = some (v,g')) : (Good I X E g' → Good I X E g) ∧
  (Good I X E g' → truth (pc.val E) = true → ∀ P t ρ w,Gives P E ρ w v (binOp op t (.int k (a.val E)) (.int k' (b.val E)))) := by
 unfold binInt at h
 split at h
 ·rename_i hs
  split at h
  ·rename_i n
   split at h
   ·rename_i hn
    rcases h1 : g.bin op k a (.c n) with ⟨r,g1⟩
    rw [h1] at h
    injection h with h; injection h with e1 e2; subst e1; subst e2
    refine ⟨fun H=>(bin_ok h1 H).1,fun H _ P t ρ w=>⟨_,run_shift t hs hn w,?_⟩⟩
    simp only [SV.sat,SA.sat,Leaf.sat]
    rw [(bin_ok h1 H).2]; rfl
   ·cases h
  ·rename_i i
   rcases h1 : g.bin .geq k' (.e i) (.c 0) with ⟨z,g1⟩
   rcases h2 : (g1.must pc z).bin op k a (.e i) with ⟨r,g2⟩
   simp only [h1,h2] at h
   injection h with h; injection h with e1 e2; subst e1; subst e2
   refine ⟨fun H=>(bin_ok h1 (must_ok (bin_ok h2 H).1).1).1,fun H hp P t ρ w=>?_⟩
   obtain ⟨H2,hv⟩ := bin_ok h2 H
   obtain ⟨H1,hm⟩ := must_ok H2
   have hz := hm hp
   rw [(bin_ok h1 H1).2] at hz
   simp only [intSem,truth_ofB,Ref.val,ge_iff_le,decide_eq_true_eq] at hz
   refine ⟨_,run_shift t hs hz w,?_⟩
   simp only [SV.sat,SA.sat,Leaf.sat]
   rw [hv]; rfl
 ·rename_i hns
  have hns' : op ≠ .shl ∧ op ≠ .shr := ⟨fun e=>hns (.inl e),fun e=>hns (.inr e)⟩
  split at h
  ·cases h
  ·rename_i hk
   obtain rfl : k = k' := Decidable.not_not.1 hk
   split at h
   ·rename_i hq
    rcases h1 : g.bin .neq k b (.c 0) with ⟨z,g1⟩
    rcases h2 : (g1.must pc z).bin op k a b with ⟨r,g2⟩
    simp only [h1,h2] at h
    injection h with h; injection h with e1 e2; subst e1; subst e2
    refine ⟨fun H=>(bin_ok h1 (must_ok (bin_ok h2 H).1).1).1,fun H hp P t ρ w=>?_⟩
    obtain ⟨H2,hv⟩ := bin_ok h2 H
    obtain ⟨H1,hm⟩ := must_ok H2
    have hz := hm hp
    rw [(bin_ok h1 H1).2] at hz
    simp only [intSem,truth_ofB] at hz
    have hz' : b.val E ≠ 0 := bne_iff_ne.1 hz
    refine ⟨_,run_binInt t hns' (fun _=>hz') w,?_⟩
    have hcm : isCmp op = false := by rcases hq with rfl | rfl <;> rfl
    simp only [hcm,Bool.false_eq_true,if_false,SV.sat,SA.sat,Leaf.sat]
    rw [hv]
   ·rename_i hq
    rcases h1 : g.bin op k a b with ⟨r,g1⟩
    simp only [h1] at h
    have hg : (Good I X E g1 → Good I X E g) := fun H=>(bin_ok h1 H).1
    split at h
    ·rename_i hcm
     injection h with h; injection h with e1 e2; subst e1; subst e2
     refine ⟨hg,fun H _ P t ρ w=>⟨_,run_binInt t hns' (fun e=>absurd e hq) w,?_⟩⟩
     simp only [hcm,if_true,SV.sat,SA.sat,Leaf.sat]
     rw [(bin_ok h1 H).2]
    ·rename_i hcm
     injection h with h; injection h with e1 e2; subst e1; subst e2
     refine ⟨hg,fun H _ P t ρ w=>⟨_,run_binInt t hns' (fun e=>absurd e hq) w,?_⟩⟩
     simp only [hcm,Bool.false_eq_true,if_false,SV.sat,SA.sat,Leaf.sat]
     rw [(bin_ok h1 H).2]
theorem eqOut_ok {op : BinOp} {r : Ref} {v : SV} (h : eqOut op r g = some (v,g')) : (Good I X E g' → Good I X E g) ∧ ((op = .eql ∧ v = .a (.one (.bool r))) ∨ (op = .neq ∧ ∃ q,v = .a (.one (.bool q)) ∧ (Good I X E g' → truth (q.val E) = !truth (r.val E)))) := by
 unfold eqOut at h
 split at h
 ·rename_i ho
  injection h with h; injection h with e1 e2; subst e1; subst e2
  exact ⟨fun H=>H,.inl ⟨ho,rfl⟩⟩
 ·split at h
  ·rename_i ho
   rcases h1 : g.not r with ⟨q,g1⟩
   rw [h1] at h
   injection h with h; injection h with e1 e2; subst e1; subst e2
   exact ⟨fun H=>(not_ok h1 H).1,.inr ⟨ho,q,rfl,fun H=>(not_ok h1 H).2⟩⟩
  ·cases h
def nilV : NilK → Value → Option Bool
 | .i,.nilIface=>some true
 | .i,.iface _ _=>some false
 | .p,.pointer none=>some true
 | .p,.pointer (some _)=>some false
 | .s,.slice none _ _=>some true
 | .s,.slice (some _) _ _=>some false
 | .f,.nilFunc=>some true
 | .f,.func _ _ _=>some false
 | _,_=>none
theorem nilL_ok {kd : NilK} : ∀ {l : Leaf} {r : Ref} {g g' : Gl},nilL kd g l = some (r,g') → (Good I X E g' → Good I X E g) ∧ (Good I X E g' → ∀ ρ v,l.sat ρ E v → nilV kd v = some (truth (r.val E))) := by
 have one : ∀ {k0 : NilK} {n : Int} {r : Ref} {g g' : Gl},(if kd = k0 then some (Ref.c n,g) else none) = some (r,g') → kd = k0 ∧ r = .c n ∧ g = g' := fun {k0 n r g g'} h=>by
  split at h
  ·rename_i e; injection h with h; injection h with e1 e2; exact ⟨e,e1.symm,e2⟩
  ·cases h
 intro l
 induction l with
 | nilI=>intro r g g' h; obtain ⟨rfl,rfl,rfl⟩ := one h; exact ⟨fun H=>H,fun _ ρ v hv=>by subst hv; rfl⟩
 | nilP=>intro r g g' h; obtain ⟨rfl,rfl,rfl⟩ := one h; exact ⟨fun H=>H,fun _ ρ v hv=>by subst hv; rfl⟩
 | nilS=>intro r g g' h; obtain ⟨rfl,rfl,rfl⟩ := one h; exact ⟨fun H=>H,fun _ ρ v hv=>by subst hv; rfl⟩
 | nilF=>intro r g g' h; obtain ⟨rfl,rfl,rfl⟩ := one h; exact ⟨fun H=>H,fun _ ρ v hv=>by subst hv; rfl⟩
 | ifc t x=>intro r g g' h; obtain ⟨rfl,rfl,rfl⟩ := one h; exact ⟨fun H=>H,fun _ ρ v hv=>by obtain ⟨u,rfl,_⟩ := hv; rfl⟩
 | ptr id off=>intro r g g' h; obtain ⟨rfl,rfl,rfl⟩ := one h; exact ⟨fun H=>H,fun _ ρ v hv=>by obtain ⟨u,_,rfl⟩ := hv; rfl⟩
 | pdx id off st n i=>intro r g g' h; obtain ⟨rfl,rfl,rfl⟩ := one h; exact ⟨fun H=>H,fun _ ρ v hv=>by obtain ⟨u,_,_,_,rfl⟩ := hv; rfl⟩
 | slc id off len cap=>intro r g g' h; obtain ⟨rfl,rfl,rfl⟩ := one h; exact ⟨fun H=>H,fun _ ρ v hv=>by obtain ⟨u,_,rfl⟩ := hv; rfl⟩
 | slu id off len sz=>intro r g g' h; obtain ⟨rfl,rfl,rfl⟩ := one h; exact ⟨fun H=>H,fun _ ρ v hv=>by obtain ⟨u,c,_,_,_,rfl⟩ := hv; rfl⟩
 | sla id off len=>intro r g g' h; obtain ⟨rfl,rfl,rfl⟩ := one h; exact ⟨fun H=>H,fun _ ρ v hv=>by obtain ⟨u,c,_,_,rfl⟩ := hv; rfl⟩
 | fn f cs=>intro r g g' h; obtain ⟨rfl,rfl,rfl⟩ := one h; exact ⟨fun H=>H,fun _ ρ v hv=>by obtain ⟨us,rfl,_⟩ := hv; rfl⟩
 | mix c a b iha ihb =>
  intro r g g' h
  simp only [nilL] at h
  split at h
  ·rename_i x g1 h1
   split at h
   ·rename_i y g2 h2
    rcases h3 : g2.ite c x y with ⟨q,g3⟩
    rw [h3] at h
    injection h with h; injection h with e1 e2; subst e1; subst e2
    obtain ⟨a1,a2⟩ := iha h1
    obtain ⟨b1,b2⟩ := ihb h2
    refine ⟨fun H=>a1 (b1 (ite_ok h3 H).1),fun H ρ v hv=>?_⟩
    obtain ⟨H2,hq⟩ := ite_ok h3 H
    cases hc : truth (c.val E)
    ·rw [b2 H2 ρ v (hv.2 hc),hq]; simp [hc]
    ·rw [a2 (b1 H2) ρ v (hv.1 hc),hq]; simp [hc]
   ·cases h
  ·cases h
 | _=>intro r g g' h; simp only [nilL] at h; cases h
theorem nilT_under {t : TypeId} {kd : NilK} (h : nilT T t = some kd) : ∃ d,P.underlying t = some d ∧ (match kd with | .i=>(∃ ms,d = .interface ms) | .p=>∃ e,d = .pointer e | .s=>∃ e,d = .slice e | .f=>∃ a b c,d = .func a b c) := by
 unfold nilT at h
 cases hu : undT T t with
 | none=>rw [hu] at h; cases h
 | some d =>
  rw [hu] at h
  refine ⟨d,und_ok hu,?_⟩
  cases d <;> first | (injection h with h; subst h; first | exact ⟨_,rfl⟩ | exact ⟨_,_,_,rfl⟩) | (cases h)
theorem nilLit_val {x : Operand} {kd : NilK} (h : nilLit x = some kd) : ∃ v,x = .const v ∧ nilV kd v = some true ∧ (kd = .s → v = .slice none 0 0) := by
 unfold nilLit at h
 split at h <;> first | (injection h with h; subst h; exact ⟨_,rfl,rfl,fun h=>by first | rfl | (cases h)⟩) | (cases h)
theorem run_equal_nil {t : TypeId} {kd : NilK} {v u : Value} {b : Bool} (ht : nilT T t = some kd) (hv : nilV kd v = some b) (hu : nilV kd u = some true) (w : World) :
  (Op.equal t v u).run P w = .ok b w ∧ (Op.equal t u v).run P w = .ok b w := by
 obtain ⟨d,h1,h2⟩ := nilT_under (P := P) ht
 have key : ∀ x y,(Op.equalIn 10000 t x y).run P w = .ok b w → (Op.equal t x y).run P w = .ok b w := fun _ _ h=>h
 refine ⟨key _ _ ?_,key _ _ ?_⟩
 all_goals
  rw [Op.equalIn,Sem.run_bind,run_under h1 w,Result.andThen_ok]
  cases kd
  ·obtain ⟨ms,rfl⟩ := h2
   cases v <;> simp only [nilV,Option.some.injEq,reduceCtorEq] at hv <;> subst hv <;> cases u <;> simp only [nilV,Option.some.injEq,reduceCtorEq,Bool.false_eq_true] at hu <;> rfl
  ·obtain ⟨e,rfl⟩ := h2
   cases v with
   | pointer a =>
    cases u with
    | pointer c =>
     cases c with
     | none=>cases a <;> (simp only [nilV,Option.some.injEq] at hv; subst hv; rfl)
     | some c=>simp [nilV] at hu
    | _=>simp [nilV] at hu
   | _=>simp [nilV] at hv
  ·obtain ⟨e,rfl⟩ := h2
   cases v with
   | slice a l c =>
    cases u with
    | slice a' l' c' =>
     cases a' with
     | none=>cases a <;> (simp only [nilV,Option.some.injEq] at hv; subst hv; rfl)
     | some c=>simp [nilV] at hu
    | _=>simp [nilV] at hu
   | _=>simp [nilV] at hv
  ·obtain ⟨e,e1,e2,rfl⟩ := h2
   cases v <;> simp only [nilV,Option.some.injEq,reduceCtorEq] at hv <;> subst hv <;> cases u <;> simp only [nilV,Option.some.injEq,reduceCtorEq,Bool.false_eq_true] at hu <;> rfl
theorem run_guard_nil {op : BinOp} {t : TypeId} {x y : Operand} {v u : Value} (h : nilLit x ≠ none ∨ nilLit y ≠ none) (hv : ∀ cs,v ≠ .agg cs) (w : World) : (eqGuard op t x y v u).run P w = .ok () w := by
 have hc : (∃ c,x = .const c) ∨ (∃ c,y = .const c) := by
  rcases h with h | h
  ·cases hl : nilLit x with
   | none=>exact absurd hl h
   | some kd=>obtain ⟨c,e,_⟩ := nilLit_val hl; exact .inl ⟨c,e⟩
  ·cases hl : nilLit y with
   | none=>exact absurd hl h
   | some kd=>obtain ⟨c,e,_⟩ := nilLit_val hl; exact .inr ⟨c,e⟩
 have hn : ∀ u,(∃ cs,v = .agg cs) → (eqGuard op t x y v u).run P w = .ok () w := fun u ⟨cs,e⟩=>absurd e (hv cs)
 cases v with
 | agg cs=>exact hn u ⟨cs,rfl⟩
 | nilIface =>
  cases u with
  | nilIface=>rcases hc with ⟨c,rfl⟩ | ⟨c,rfl⟩ <;> cases op <;> first | rfl | (cases x <;> rfl)
  | _=>cases op <;> rfl
 | _=>cases op <;> rfl
end
section
variable {P : Program} {T : Tys} [TyOk P T] {O : Objs} {I : Nat → Int} {X : Nat → List Int → Int} {ρ : Map} {E : Nat → Int} {w w' : World} {m m' : Mem} {g g' : Gl}
theorem scalarT_agg {e : TypeId} {ls : List Leaf} (h : scalarT T e ls = true) : isAggT T e = some false ∧ ((P.underlying e = some .bool ∧ ls.all isB = true) ∨ ((∃ k,P.underlying e = some (.int k)) ∧ ls.all isI = true)) := by
 unfold scalarT at h
 unfold isAggT
 split at h
 ·rename_i hu; rw [hu]; exact ⟨rfl,.inl ⟨und_ok hu,h⟩⟩
 ·rename_i k hu; rw [hu]; exact ⟨rfl,.inr ⟨⟨k,und_ok hu⟩,h⟩⟩
 ·cases h
theorem run_part1 {e : TypeId} {vs : List Value} {k : Nat} {v : Value} (ha : isAggT T e = some false) (hv : vs[k]? = some v) (w : World) : (part e vs.toArray (k * 1)).run P w = .ok v w := by
 unfold part
 simp only [Sem.run_bind,run_isAggT ha w,Result.andThen_ok,Nat.mul_one]
 simp [hv]
theorem drop_cons_get {α : Type} {l : List α} {k : Nat} {x : α} {xs : List α} (h : l.drop k = x :: xs) : l[k]? = some x ∧ l.drop (k + 1) = xs := by
 constructor
 ·have : (l.drop k)[0]? = some x := by rw [h]; rfl
  simpa using this
 ·have : (l.drop k).drop 1 = xs := by rw [h]; rfl
  rw [← this,List.drop_drop]
theorem eqLs_ok {e : TypeId} : ∀ {xs ys : List Leaf} {r : Ref} {g g' : Gl},eqLs g xs ys = some (r,g') → (Good I X E g' → Good I X E g) ∧
  (Good I X E g' → scalarT T e xs = true → ∀ (ρ : Map) (d k : Nat) (vs us : List Value),sats ρ E xs (vs.drop k) → sats ρ E ys (us.drop k) → ∀ w,
   (Op.eqItems (d + 1) e 1 vs.toArray us.toArray (List.range' k xs.length)).run P w = .ok (truth (r.val E)) w)
 | [],[],r,g,g',h=>by
  simp only [eqLs] at h
  injection h with h; injection h with e1 e2; subst e1; subst e2
  exact ⟨fun H=>H,fun _ _ ρ d k vs us _ _ w=>rfl⟩
 | .int k0 x :: xs,.int k1 y :: ys,r,g,g',h=>by
  simp only [eqLs] at h
  split at h
  ·rename_i hk; subst hk
   rcases h1 : g.bin .eql k0 x y with ⟨r1,g1⟩
   simp only [h1] at h
   split at h
   ·rename_i q g2 h2
    rcases h3 : g2.and r1 q with ⟨r3,g3⟩
    rw [h3] at h
    injection h with h; injection h with e1 e2; subst e1; subst e2
    obtain ⟨q1,q2⟩ := eqLs_ok h2
    refine ⟨fun H=>(bin_ok h1 (q1 (and_ok h3 H).1)).1,fun H hsc ρ d k vs us hv hu w=>?_⟩
    obtain ⟨H2,hr⟩ := and_ok h3 H
    obtain ⟨ha,hty⟩ := scalarT_agg (P := P) hsc
    have hsc' : scalarT T e xs = true := by
     unfold scalarT at hsc ⊢
     split at hsc
     ·simp only [List.all_cons,Bool.and_eq_true] at hsc; simp only [hsc.2]
     ·simp only [List.all_cons,Bool.and_eq_true] at hsc; simp only [hsc.2]
     ·cases hsc
    have hint : ∃ kk,P.underlying e = some (.int kk) := by
     rcases hty with ⟨_,h⟩ | ⟨h,_⟩
     ·simp [isB] at h
     ·exact h
    obtain ⟨kk,hint⟩ := hint
    cases hvd : vs.drop k with
    | nil=>rw [hvd] at hv; exact hv.elim
    | cons a vs' =>
     cases hud : us.drop k with
     | nil=>rw [hud] at hu; exact hu.elim
     | cons b us' =>
      rw [hvd] at hv; rw [hud] at hu
      obtain ⟨hv1,hv2⟩ := drop_cons_get hvd
      obtain ⟨hu1,hu2⟩ := drop_cons_get hud
      have hva := hv.1
      have hub := hu.1
      simp only [Leaf.sat] at hva hub
      subst hva; subst hub
      have ih := q2 H2 hsc' ρ d (k + 1) vs us (by rw [hv2]; exact hv.2) (by rw [hu2]; exact hu.2) w
      have he : (Op.equalIn (d + 1) e (.int k0 (x.val E)) (.int k0 (y.val E))).run P w = .ok (x.val E == y.val E) w := by
       rw [Op.equalIn,Sem.run_bind,run_under hint w,Result.andThen_ok]
       simp
      have hbin : truth (r1.val E) = (x.val E == y.val E) := by rw [(bin_ok h1 (q1 H2)).2]; simp only [intSem,truth_ofB]
      simp only [List.length_cons,List.range'_succ,Op.eqItems,Sem.run_bind,run_part1 ha hv1 w,run_part1 ha hu1 w,he,Result.andThen_ok]
      rw [hr,hbin]
      cases hxy : (x.val E == y.val E)
      ·simp
      ·simpa using ih
   ·cases h
  ·cases h
 | .bool x :: xs,.bool y :: ys,r,g,g',h=>by
  simp only [eqLs] at h
  rcases h1 : g.eqb x y with ⟨r1,g1⟩
  simp only [h1] at h
  split at h
  ·rename_i q g2 h2
   rcases h3 : g2.and r1 q with ⟨r3,g3⟩
   rw [h3] at h
   injection h with h; injection h with e1 e2; subst e1; subst e2
   obtain ⟨q1,q2⟩ := eqLs_ok h2
   refine ⟨fun H=>(eqb_ok h1 (q1 (and_ok h3 H).1)).1,fun H hsc ρ d k vs us hv hu w=>?_⟩
   obtain ⟨H2,hr⟩ := and_ok h3 H
   obtain ⟨ha,hty⟩ := scalarT_agg (P := P) hsc
   have hsc' : scalarT T e xs = true := by
    unfold scalarT at hsc ⊢
    split at hsc
    ·simp only [List.all_cons,Bool.and_eq_true] at hsc; simp only [hsc.2]
    ·simp only [List.all_cons,Bool.and_eq_true] at hsc; simp only [hsc.2]
    ·cases hsc
   have hint : P.underlying e = some .bool := by
    rcases hty with ⟨h,_⟩ | ⟨_,h⟩
    ·exact h
    ·simp [isI] at h
   cases hvd : vs.drop k with
   | nil=>rw [hvd] at hv; exact hv.elim
   | cons a vs' =>
    cases hud : us.drop k with
    | nil=>rw [hud] at hu; exact hu.elim
    | cons b us' =>
     rw [hvd] at hv; rw [hud] at hu
     obtain ⟨hv1,hv2⟩ := drop_cons_get hvd
     obtain ⟨hu1,hu2⟩ := drop_cons_get hud
     have hva := hv.1
     have hub := hu.1
     simp only [Leaf.sat] at hva hub
     subst hva; subst hub
     have ih := q2 H2 hsc' ρ d (k + 1) vs us (by rw [hv2]; exact hv.2) (by rw [hu2]; exact hu.2) w
     have he : (Op.equalIn (d + 1) e (.bool (truth (x.val E))) (.bool (truth (y.val E)))).run P w = .ok (truth (x.val E) == truth (y.val E)) w := by
      rw [Op.equalIn,Sem.run_bind,run_under hint w,Result.andThen_ok]
      simp
     have hbin := (eqb_ok h1 (q1 H2)).2
     simp only [List.length_cons,List.range'_succ,Op.eqItems,Sem.run_bind,run_part1 ha hv1 w,run_part1 ha hu1 w,he,Result.andThen_ok]
     rw [hr,hbin]
     cases hxy : (truth (x.val E) == truth (y.val E))
     ·simp
     ·simpa using ih
  ·cases h
 | [],_ :: _,_,_,_,h=>by simp [eqLs] at h
 | _ :: _,[],_,_,_,h=>by simp [eqLs] at h
 | .int _ _ :: _,.bool _ :: _,_,_,_,h=>by simp [eqLs] at h
 | .int _ _ :: _,.ptr _ _ :: _,_,_,_,h=>by simp [eqLs] at h
 | .int _ _ :: _,.pdx _ _ _ _ _ :: _,_,_,_,h=>by simp [eqLs] at h
 | .int _ _ :: _,.slc _ _ _ _ :: _,_,_,_,h=>by simp [eqLs] at h
 | .int _ _ :: _,.slu _ _ _ _ :: _,_,_,_,h=>by simp [eqLs] at h
 | .int _ _ :: _,.sla _ _ _ :: _,_,_,_,h=>by simp [eqLs] at h
 | .int _ _ :: _,.opq _ :: _,_,_,_,h=>by simp [eqLs] at h
 | .int _ _ :: _,.opl _ _ :: _,_,_,_,h=>by simp [eqLs] at h
 | .int _ _ :: _,.nilP :: _,_,_,_,h=>by simp [eqLs] at h
 | .int _ _ :: _,.nilI :: _,_,_,_,h=>by simp [eqLs] at h
 | .int _ _ :: _,.nilS :: _,_,_,_,h=>by simp [eqLs] at h
 | .int _ _ :: _,.nilF :: _,_,_,_,h=>by simp [eqLs] at h
 | .int _ _ :: _,.ifc _ _ :: _,_,_,_,h=>by simp [eqLs] at h
 | .int _ _ :: _,.fn _ _ :: _,_,_,_,h=>by simp [eqLs] at h
 | .int _ _ :: _,.cons _ _ :: _,_,_,_,h=>by simp [eqLs] at h
 | .int _ _ :: _,.mix _ _ _ :: _,_,_,_,h=>by simp [eqLs] at h
 | .int _ _ :: _,.junk :: _,_,_,_,h=>by simp [eqLs] at h
 | .bool _ :: _,.int _ _ :: _,_,_,_,h=>by simp [eqLs] at h
 | .bool _ :: _,.ptr _ _ :: _,_,_,_,h=>by simp [eqLs] at h
 | .bool _ :: _,.pdx _ _ _ _ _ :: _,_,_,_,h=>by simp [eqLs] at h
 | .bool _ :: _,.slc _ _ _ _ :: _,_,_,_,h=>by simp [eqLs] at h
 | .bool _ :: _,.slu _ _ _ _ :: _,_,_,_,h=>by simp [eqLs] at h
 | .bool _ :: _,.sla _ _ _ :: _,_,_,_,h=>by simp [eqLs] at h
 | .bool _ :: _,.opq _ :: _,_,_,_,h=>by simp [eqLs] at h
 | .bool _ :: _,.opl _ _ :: _,_,_,_,h=>by simp [eqLs] at h
 | .bool _ :: _,.nilP :: _,_,_,_,h=>by simp [eqLs] at h
 | .bool _ :: _,.nilI :: _,_,_,_,h=>by simp [eqLs] at h
 | .bool _ :: _,.nilS :: _,_,_,_,h=>by simp [eqLs] at h
 | .bool _ :: _,.nilF :: _,_,_,_,h=>by simp [eqLs] at h
 | .bool _ :: _,.ifc _ _ :: _,_,_,_,h=>by simp [eqLs] at h
 | .bool _ :: _,.fn _ _ :: _,_,_,_,h=>by simp [eqLs] at h
 | .bool _ :: _,.cons _ _ :: _,_,_,_,h=>by simp [eqLs] at h
 | .bool _ :: _,.mix _ _ _ :: _,_,_,_,h=>by simp [eqLs] at h
 | .bool _ :: _,.junk :: _,_,_,_,h=>by simp [eqLs] at h
 | .ptr _ _ :: _,_ :: _,_,_,_,h=>by simp [eqLs] at h
 | .pdx _ _ _ _ _ :: _,_ :: _,_,_,_,h=>by simp [eqLs] at h
 | .slc _ _ _ _ :: _,_ :: _,_,_,_,h=>by simp [eqLs] at h
 | .slu _ _ _ _ :: _,_ :: _,_,_,_,h=>by simp [eqLs] at h
 | .sla _ _ _ :: _,_ :: _,_,_,_,h=>by simp [eqLs] at h
 | .opq _ :: _,_ :: _,_,_,_,h=>by simp [eqLs] at h
 | .opl _ _ :: _,_ :: _,_,_,_,h=>by simp [eqLs] at h
 | .nilP :: _,_ :: _,_,_,_,h=>by simp [eqLs] at h
 | .nilI :: _,_ :: _,_,_,_,h=>by simp [eqLs] at h
 | .nilS :: _,_ :: _,_,_,_,h=>by simp [eqLs] at h
 | .nilF :: _,_ :: _,_,_,_,h=>by simp [eqLs] at h
 | .ifc _ _ :: _,_ :: _,_,_,_,h=>by simp [eqLs] at h
 | .fn _ _ :: _,_ :: _,_,_,_,h=>by simp [eqLs] at h
 | .cons _ _ :: _,_ :: _,_,_,_,h=>by simp [eqLs] at h
 | .mix _ _ _ :: _,_ :: _,_,_,_,h=>by simp [eqLs] at h
 | .junk :: _,_ :: _,_,_,_,h=>by simp [eqLs] at h
theorem run_eqGuard_agg {op : BinOp} {t : TypeId} {x y : Operand} {a b : Array Value} (h : P.eqGuardType P.depth t = false) (w : World) : (eqGuard op t x y (.agg a) (.agg b)).run P w = .ok () w := by
 unfold eqGuard
 cases op <;> first | rfl | (simp [program,Sem.run,Sem.run_bind,h])
def EvOk (ρ : Map) (E : Nat → Int) (ev : Ev) (a : Act) (xs : List Operand) : Prop := ∀ x ∈ xs,∀ sv,ev x = some sv → sv.sat ρ E (a.eval x)
theorem EvOk.one {ev : Ev} {a : Act} {xs : List Operand} (h : EvOk ρ E ev a xs) {x : Operand} (hx : x ∈ xs) {l : Leaf} (he : ev1 ev x = some l) : l.sat ρ E (a.eval x) := h x hx _ (ev1_eq he)
theorem EvOk.agg {ev : Ev} {a : Act} {xs : List Operand} (h : EvOk ρ E ev a xs) {x : Operand} (hx : x ∈ xs) {z : SA} (he : evA ev x = some z) : z.sat ρ E (a.eval x) := h x hx _ (evA_eq he)
theorem evBin_ok {C : Cx} [TyOk C.P C.T] {ev : Ev} {pc : Ref} {op : BinOp} {t : TypeId} {x y : Operand} {v : SV} (h : evBin C ev pc g op t x y = some (v,g')) :
  (Good I X E g' → Good I X E g) ∧ (Good I X E g' → truth (pc.val E) = true → ∀ ρ a w,EvOk ρ E ev a [x,y] →
   Gives C.P E ρ w v (do eqGuard op t x y (a.eval x) (a.eval y); binOp op t (a.eval x) (a.eval y))) := by
 unfold evBin at h
 split at h
 ·rename_i la lb ha hb
  split at h
  ·rename_i k r1 k' r2
   obtain ⟨q1,q2⟩ := binInt_ok (I := I) (X := X) (E := E) h
   refine ⟨q1,fun H hp ρ a w ho=>?_⟩
   have e1 := ho.agg (x := x) (by simp) ha
   have e2 := ho.agg (x := y) (by simp) hb
   simp only [SA.sat,Leaf.sat] at e1 e2
   rw [e1,e2]
   obtain ⟨u,hu,hs⟩ := q2 H hp C.P t ρ w
   refine ⟨u,?_,hs⟩
   have hg : (eqGuard op t x y (.int k (r1.val E)) (.int k' (r2.val E))).run C.P w = .ok () w := by unfold eqGuard; cases op <;> rfl
   simp only [Sem.run_bind,hg,Result.andThen_ok,hu]
  ·rename_i r1 r2
   split at h
   ·rename_i hbt
    rcases h1 : g.eqb r1 r2 with ⟨r,g1⟩
    simp only [h1] at h
    obtain ⟨q1,q2⟩ := eqOut_ok (I := I) (X := X) (E := E) h
    refine ⟨fun H=>(eqb_ok h1 (q1 H)).1,fun H hp ρ a w ho=>?_⟩
    have e1 := ho.agg (x := x) (by simp) ha
    have e2 := ho.agg (x := y) (by simp) hb
    simp only [SA.sat,Leaf.sat] at e1 e2
    rw [e1,e2]
    have hg : (eqGuard op t x y (.bool (truth (r1.val E))) (.bool (truth (r2.val E)))).run C.P w = .ok () w := by unfold eqGuard; cases op <;> rfl
    have hq := (eqb_ok h1 (q1 H)).2
    have he : (Op.equal t (.bool (truth (r1.val E))) (.bool (truth (r2.val E)))).run C.P w = .ok (truth (r1.val E) == truth (r2.val E)) w := by
     show (Op.equalIn 10000 t _ _).run C.P w = _
     rw [Op.equalIn,Sem.run_bind,run_under (und_ok hbt) w,Result.andThen_ok]; rfl
    rcases q2 with ⟨rfl,rfl⟩ | ⟨rfl,q,rfl,hq2⟩
    ·refine ⟨.bool (truth (r.val E)),?_,rfl⟩
     rw [hq]
     simp only [Sem.run_bind,hg,Result.andThen_ok,binOp,he,Sem.run_pure]
    ·refine ⟨.bool (truth (q.val E)),?_,rfl⟩
     rw [hq2 H,hq]
     simp only [Sem.run_bind,hg,Result.andThen_ok,binOp,he,Sem.run_pure]
   ·cases h
  ·rename_i hn1 hn2
   split at h
   ·rename_i kd hkd
    split at h
    ·rename_i hy
     split at h
     ·rename_i r g1 h1
      obtain ⟨q1,q2⟩ := eqOut_ok (I := I) (X := X) (E := E) h
      obtain ⟨n1,n2⟩ := nilL_ok (I := I) (X := X) (E := E) h1
      refine ⟨fun H=>n1 (q1 H),fun H hp ρ a w ho=>?_⟩
      have e1 := ho.agg (x := x) (by simp) ha
      obtain ⟨c,rfl,hc,_⟩ := nilLit_val hy
      have hv := n2 (q1 H) ρ _ e1
      have hag : ∀ cs,a.eval x ≠ .agg cs := fun cs e=>by rw [e] at hv; cases kd <;> simp [nilV] at hv
      have hag2 : ∀ (b : Bool),nilV kd (a.eval x) = some b → (∀ k n,a.eval x ≠ .int k n) ∧ ∀ b,a.eval x ≠ .bool b := fun b hb=>⟨fun k n e=>by rw [e] at hb; cases kd <;> simp [nilV] at hb,fun b e=>by rw [e] at hb; cases kd <;> simp [nilV] at hb⟩
      have hg := run_guard_nil (P := C.P) (op := op) (t := t) (x := x) (y := .const c) (v := a.eval x) (u := c) (.inr (by rw [hy]; simp)) hag w
      have he := (run_equal_nil (P := C.P) hkd hv hc w).1
      have hb : ∀ {o : BinOp},(o = .eql ∨ o = .neq) → binOp o t (a.eval x) c = (do let r ← Op.equal t (a.eval x) c; pure (.bool (if o = .eql then r else !r))) := fun {o} ho=>by
       generalize a.eval x = v at hv
       rcases ho with rfl | rfl <;> cases kd <;> cases v <;> simp only [nilV,reduceCtorEq] at hv <;> rfl
      show Gives C.P E ρ w v (do eqGuard op t x (.const c) (a.eval x) c; binOp op t (a.eval x) c)
      rcases q2 with ⟨rfl,rfl⟩ | ⟨rfl,q,rfl,hq2⟩
      ·refine ⟨.bool (truth (r.val E)),?_,rfl⟩
       simp only [Sem.run_bind,hg,Result.andThen_ok,hb (.inl rfl),he,Sem.run_pure,if_true]
      ·refine ⟨.bool (truth (q.val E)),?_,rfl⟩
       rw [hq2 H]
       simp only [Sem.run_bind,hg,Result.andThen_ok,hb (.inr rfl),he,Sem.run_pure,reduceCtorEq,if_false]
     ·cases h
    ·split at h
     ·rename_i hx
      split at h
      ·rename_i r g1 h1
       obtain ⟨q1,q2⟩ := eqOut_ok (I := I) (X := X) (E := E) h
       obtain ⟨n1,n2⟩ := nilL_ok (I := I) (X := X) (E := E) h1
       refine ⟨fun H=>n1 (q1 H),fun H hp ρ a w ho=>?_⟩
       have e1 := ho.agg (x := y) (by simp) hb
       obtain ⟨c,rfl,hc,_⟩ := nilLit_val hx
       have hv := n2 (q1 H) ρ _ e1
       have hag : ∀ cs,c ≠ .agg cs := fun cs e=>by rw [e] at hc; cases kd <;> simp [nilV] at hc
       have hg := run_guard_nil (P := C.P) (op := op) (t := t) (x := .const c) (y := y) (v := c) (u := a.eval y) (.inl (by rw [hx]; simp)) hag w
       have he := (run_equal_nil (P := C.P) hkd hv hc w).2
       have hb' : ∀ {o : BinOp},(o = .eql ∨ o = .neq) → binOp o t c (a.eval y) = (do let r ← Op.equal t c (a.eval y); pure (.bool (if o = .eql then r else !r))) := fun {o} ho=>by
        generalize a.eval y = v at hv
        rcases ho with rfl | rfl <;> cases kd <;> cases c <;> simp only [nilV,reduceCtorEq] at hc <;> cases v <;> simp only [nilV,reduceCtorEq] at hv <;> rfl
       show Gives C.P E ρ w v (do eqGuard op t (.const c) y c (a.eval y); binOp op t c (a.eval y))
       rcases q2 with ⟨rfl,rfl⟩ | ⟨rfl,q,rfl,hq2⟩
       ·refine ⟨.bool (truth (r.val E)),?_,rfl⟩
        simp only [Sem.run_bind,hg,Result.andThen_ok,hb' (.inl rfl),he,Sem.run_pure,if_true]
       ·refine ⟨.bool (truth (q.val E)),?_,rfl⟩
        rw [hq2 H]
        simp only [Sem.run_bind,hg,Result.andThen_ok,hb' (.inr rfl),he,Sem.run_pure,reduceCtorEq,if_false]
      ·cases h
     ·cases h
   ·cases h
 ·rename_i xs ys ha hb
  split at h
  ·rename_i n e hu
   split at h
   ·rename_i hc
    obtain ⟨c1,c2,c3,c4,c5⟩ := hc
    split at h
    ·rename_i r g1 h1
     obtain ⟨q1,q2⟩ := eqOut_ok (I := I) (X := X) (E := E) h
     obtain ⟨n1,n2⟩ := eqLs_ok (P := C.P) (T := C.T) (I := I) (X := X) (E := E) (e := e) h1
     refine ⟨fun H=>n1 (q1 H),fun H hp ρ a w ho=>?_⟩
     obtain ⟨cs,e1,l1,s1⟩ := ho.agg (x := x) (by simp) ha
     obtain ⟨ds,e2,l2,s2⟩ := ho.agg (x := y) (by simp) hb
     rw [e1,e2]
     have hg := run_eqGuard_agg (P := C.P) (op := op) (t := t) (x := x) (y := y) (a := cs.toArray) (b := ds.toArray) c5 w
     have he : (Op.equal t (.agg cs.toArray) (.agg ds.toArray)).run C.P w = .ok (truth (r.val E)) w := by
      have hci : ∃ i,C.P.info? e = some i ∧ C.P.cellsOf e = 1 := by
       obtain ⟨i,hi,hs⟩ := sizeT_ok (P := C.P) c3
       exact ⟨i,hi,by simp only [Program.cellsOf,hi]; simpa using hs⟩
      obtain ⟨i,hi,hcell⟩ := hci
      have := run_equalIn_array (P := C.P) (w := w) 9999 cs.toArray ds.toArray (und_ok hu) hi
      rw [hcell] at this
      have k := n2 (q1 H) c4 ρ 9998 0 cs ds (by simpa using s1) (by simpa using s2) w
      rw [c1,← List.range_eq_range'] at k
      exact this.trans k
     rcases q2 with ⟨rfl,rfl⟩ | ⟨rfl,q,rfl,hq2⟩
     ·refine ⟨.bool (truth (r.val E)),?_,rfl⟩
      simp only [Sem.run_bind,hg,Result.andThen_ok,binOp,he,Sem.run_pure]
     ·refine ⟨.bool (truth (q.val E)),?_,rfl⟩
      rw [hq2 H]
      simp only [Sem.run_bind,hg,Result.andThen_ok,binOp,he,Sem.run_pure]
    ·cases h
   ·cases h
  ·cases h
 ·cases h
end
section
variable {P : Program} {T : Tys} [TyOk P T] {O : Objs} {I : Nat → Int} {X : Nat → List Int → Int} {ρ : Map} {E : Nat → Int} {w w' : World} {m m' : Mem} {g g' : Gl}
theorem Ext.nbs {ρ ρ' : Map} {m m' m'' : Mem} (h : Ext ρ ρ' m m' w w') (e : m''.nb = m'.nb) : Ext ρ ρ' m m'' w w' :=
 ⟨h.le,h.size,h.keep,fun i=>by rw [e]; exact h.chg i,h.new,h.io⟩
theorem elemP_ok {pc : Ref} {id off n z : Nat} {i : Leaf} {v : SV} (h : elemP pc id off n z i g = some (v,g')) : (Good I X E g' → Good I X E g) ∧
  (Good I X E g' → truth (pc.val E) = true → ∀ ρ u L,i.sat ρ E u → ρ id = some L → ∃ k j,u = .int k j ∧ 0 ≤ j ∧ j < n ∧ v.sat ρ E (.pointer (some ((⟨L.n,off,none⟩ : Addr).add (j.toNat * z))))) := by
 unfold elemP at h
 split at h
 ·rename_i k r
  split at h
  ·rename_i j
   split at h
   ·rename_i hj
    injection h with h; injection h with e1 e2; subst e1; subst e2
    refine ⟨fun H=>H,fun _ _ ρ u L hu hL=>⟨k,j,hu,hj.1,hj.2,L,hL,?_⟩⟩
    rw [Addr.add_mid]
   ·cases h
  ·rename_i q
   rcases h1 : g.bin .geq k (.e q) (.c 0) with ⟨x,g1⟩
   rcases h2 : g1.bin .lss k (.e q) (.c n) with ⟨y,g2⟩
   simp only [h1,h2] at h
   injection h with h; injection h with e1 e2; subst e1; subst e2
   refine ⟨fun H=>(bin_ok h1 (bin_ok h2 (must_ok (must_ok H).1).1).1).1,fun H hp ρ u L hu hL=>?_⟩
   obtain ⟨H1,m1⟩ := must_ok H
   obtain ⟨H2,m2⟩ := must_ok H1
   obtain ⟨H3,b2⟩ := bin_ok h2 H2
   have b1 := (bin_ok h1 H3).2
   have t1 := m2 hp
   have t2 := m1 hp
   rw [b1] at t1
   rw [b2] at t2
   simp only [intSem,truth_ofB,ge_iff_le,decide_eq_true_eq] at t1 t2
   have t1' : 0 ≤ (Ref.e q).val E := t1
   have t2' : (Ref.e q).val E < n := t2
   refine ⟨k,_,hu,t1',t2',L,hL,t1',by omega,?_⟩
   rw [Addr.add_mid,Nat.mul_comm z]
 ·cases h
theorem litN_ok {l : Leaf} {n : Nat} (h : litN l = some n) {v : Value} (hv : l.sat ρ E v) : ∃ k,v = .int k n := by
 unfold litN at h
 split at h
 ·rename_i k j
  split at h
  ·rename_i hj
   injection h with h; subst h
   refine ⟨k,?_⟩
   rw [hv]
   simp only [Ref.val,Int.toNat_of_nonneg hj]
  ·cases h
 ·cases h
theorem lit1_ok {ev : Ev} {a : Act} {xs : List Operand} (ho : EvOk ρ E ev a xs) {x : Operand} (hx : x ∈ xs) {n : Nat} (h : (ev1 ev x).bind litN = some n) : ∃ k,a.eval x = .int k n := by
 cases he : ev1 ev x with
 | none=>rw [he] at h; cases h
 | some l=>rw [he] at h; exact litN_ok h (ho.one hx he)
theorem litO_ok {ev : Ev} {a : Act} {xs : List Operand} (ho : EvOk ρ E ev a xs) {x : Option Operand} (hx : ∀ y,x = some y → y ∈ xs) {q : Option Nat} (h : litO ev x = some q) :
  (x = none ∧ q = none) ∨ ∃ y n k,x = some y ∧ q = some n ∧ a.eval y = .int k n := by
 cases x with
 | none=>exact .inl ⟨rfl,by simpa [litO] using h.symm⟩
 | some y =>
  simp only [litO] at h
  cases hb : (ev1 ev y).bind litN with
  | none=>rw [hb] at h; cases h
  | some n =>
   rw [hb] at h
   obtain ⟨k,hk⟩ := lit1_ok ho (hx y rfl) hb
   exact .inr ⟨y,n,k,rfl,by simpa using h.symm,hk⟩
theorem run_bound {k : IntKind} {n y : Nat} {code : BoundsCode} (h : n ≤ y) (w : World) : (Instr.sliceBound (.int k n) y code).run P w = .ok n w := by
 unfold Instr.sliceBound
 simp only [asIntOf,Sem.run_bind,Sem.run_pure,Result.andThen_ok]
 rw [if_pos ⟨by omega,by omega⟩]
 rfl
def OVal (q : Option Nat) (v : Option Value) : Prop := (q = none ∧ v = none) ∨ ∃ n k,q = some n ∧ v = some (.int k (n : Nat))
theorem run_bounds {len cap : Nat} {lo hi mx : Option Nat} {vl vh vm : Option Value} (hl : OVal lo vl) (hh : OVal hi vh) (hm : OVal mx vm) (h3 : mx ≠ none → hi ≠ none)
  (c1 : mx.getD cap ≤ cap) (c2 : hi.getD len ≤ mx.getD cap) (c3 : lo.getD 0 ≤ hi.getD len) (w : World) :
  (Instr.sliceBounds true len cap vl vh vm).run P w = .ok (lo.getD 0,hi.getD len,mx.getD cap) w := by
 unfold Instr.sliceBounds
 rcases hm with ⟨rfl,rfl⟩ | ⟨nm,km,rfl,rfl⟩ <;> rcases hh with ⟨rfl,rfl⟩ | ⟨nh,kh,rfl,rfl⟩ <;> rcases hl with ⟨rfl,rfl⟩ | ⟨nl,kl,rfl,rfl⟩ <;>
  simp only [Option.getD_none,Option.getD_some] at c1 c2 c3 ⊢ <;>
  first
   | (simp [Sem.run_bind,run_bound,c1,c2,c3]; done)
   | (exact absurd rfl (h3 (by simp)))
theorem cutL_ok {e z : Nat} {lo hi mx : Option Nat} {vl vh vm : Option Value} {l l' : Leaf} (h : cutL z lo hi mx l = some l') (hl : OVal lo vl) (hh : OVal hi vh) (hm : OVal mx vm) (h3 : mx ≠ none → hi ≠ none)
  (hsz : sizeT T e = some z) {t : TypeId} (ht : P.underlying t = some (.slice e)) {v : Value} (hv : l.sat ρ E v) (w : World) :
  ∃ u,(Instr.sliceAt t v vl vh vm).run P w = .ok u w ∧ l'.sat ρ E u := by
 have main : ∀ {base : Option Addr} {len cap : Nat},mx.getD cap ≤ cap → hi.getD len ≤ mx.getD cap → lo.getD 0 ≤ hi.getD len →
   (Instr.sliceAt t (.slice base len cap) vl vh vm).run P w = .ok (.slice (if mx.getD cap = lo.getD 0 then base else base.map (·.add (lo.getD 0 * z))) (hi.getD len - lo.getD 0) (mx.getD cap - lo.getD 0)) w := fun {base len cap} c1 c2 c3=>by
  unfold Instr.sliceAt
  simp only [Sem.run_bind,run_under ht w,Result.andThen_ok]
  unfold Instr.slice
  simp only [Sem.run_bind,run_under ht w,Result.andThen_ok,run_bounds hl hh hm h3 c1 c2 c3,run_sizeT hsz w,Sem.run_pure]
 cases l with
 | nilS =>
  simp only [cutL] at h
  split at h
  ·rename_i hc
   injection h with h; subst h
   simp only [Leaf.sat] at hv
   subst hv
   refine ⟨_,main (base := none) (len := 0) (cap := 0) (by omega) (by rcases hi <;> simp_all) (by rcases hi <;> simp_all),?_⟩
   simp only [Leaf.sat,Option.map_none,ite_self]
   rcases hi <;> rcases mx <;> simp_all
  ·cases h
 | slc id off len cap =>
  simp only [cutL] at h
  split at h
  ·rename_i hc
   injection h with h; subst h
   obtain ⟨L,hL,rfl⟩ := hv
   refine ⟨_,main hc.1 hc.2.1 hc.2.2,L,hL,?_⟩
   split
   ·rfl
   ·simp only [Option.map_some]; rw [Addr.add_mid]
  ·cases h
 | slu id off len z' =>
  simp only [cutL] at h
  cases mx with
  | some mq =>
   simp only at h
   split at h
   ·rename_i hc
    injection h with h; subst h
    obtain ⟨L,cap,hL,_,hlc,rfl⟩ := hv
    refine ⟨_,main (by simp only [Option.getD_some]; omega) (by simp only [Option.getD_some]; exact hc.2.1) hc.2.2,L,hL,?_⟩
    simp only [Option.getD_some]
    split
    ·rfl
    ·simp only [Option.map_some]; rw [Addr.add_mid]
   ·cases h
  | none =>
   simp only at h
   split at h
   ·rename_i hc
    injection h with h; subst h
    obtain ⟨c1,c2,rfl⟩ := hc
    obtain ⟨L,cap,hL,htot,hlc,rfl⟩ := hv
    refine ⟨_,main (by simp) (by simp only [Option.getD_none]; omega) (Nat.le_of_lt c2),L,cap - lo.getD 0,hL,?_,by omega,?_⟩
    ·have hle : lo.getD 0 ≤ cap := by omega
     obtain ⟨d,rfl⟩ := Nat.exists_eq_add_of_le hle
     rw [Nat.add_sub_cancel_left,← htot,Nat.add_mul]; omega
    ·simp only [Option.getD_none]
     rw [if_neg (by omega)]
     simp only [Option.map_some]; rw [Addr.add_mid]
   ·cases h
 | sla id off len =>
  simp only [cutL] at h
  cases mx with
  | some mq =>
   simp only at h
   split at h
   ·rename_i hc
    injection h with h; subst h
    obtain ⟨L,cap,hL,hlc,rfl⟩ := hv
    refine ⟨_,main (by simp only [Option.getD_some]; omega) (by simp only [Option.getD_some]; exact hc.2.1) hc.2.2,L,hL,?_⟩
    simp only [Option.getD_some]
    split
    ·rfl
    ·simp only [Option.map_some]; rw [Addr.add_mid]
   ·cases h
  | none =>
   simp only at h
   split at h
   ·rename_i hc
    injection h with h; subst h
    obtain ⟨c1,c2⟩ := hc
    obtain ⟨L,cap,hL,hlc,rfl⟩ := hv
    refine ⟨_,main (by simp) (by simp only [Option.getD_none]; omega) (Nat.le_of_lt c2),L,cap - lo.getD 0,hL,by omega,?_⟩
    simp only [Option.getD_none]
    rw [if_neg (by omega)]
    simp only [Option.map_some]; rw [Addr.add_mid]
   ·cases h
 | _=>simp [cutL] at h
theorem cutA_ok {e z n id off : Nat} {lo hi mx : Option Nat} {vl vh vm : Option Value} {l' : Leaf} (h : cutL z lo hi mx (.slc id off n n) = some l') (hl : OVal lo vl) (hh : OVal hi vh) (hm : OVal mx vm) (h3 : mx ≠ none → hi ≠ none)
  (hsz : sizeT T e = some z) {t : TypeId} (ht : P.underlying t = some (.array n e)) {v : Value} (hv : (Leaf.ptr id off).sat ρ E v) (w : World) :
  ∃ u,(Instr.sliceAt t v vl vh vm).run P w = .ok u w ∧ l'.sat ρ E u := by
 simp only [cutL] at h
 split at h
 ·rename_i hc
  injection h with h; subst h
  obtain ⟨L,hL,rfl⟩ := hv
  have hb : (Instr.sliceBounds false n n vl vh vm).run P w = .ok (lo.getD 0,hi.getD n,mx.getD n) w := by
   unfold Instr.sliceBounds
   obtain ⟨c1,c2,c3⟩ := hc
   rcases hm with ⟨rfl,rfl⟩ | ⟨nm,km,rfl,rfl⟩ <;> rcases hh with ⟨rfl,rfl⟩ | ⟨nh,kh,rfl,rfl⟩ <;> rcases hl with ⟨rfl,rfl⟩ | ⟨nl,kl,rfl,rfl⟩ <;>
    simp only [Option.getD_none,Option.getD_some] at c1 c2 c3 ⊢ <;>
    first
     | (simp [Sem.run_bind,run_bound,c1,c2,c3]; done)
     | (exact absurd rfl (h3 (by simp)))
  refine ⟨_,?_,L,hL,rfl⟩
  unfold Instr.sliceAt
  simp only [Sem.run_bind,run_under ht w,Result.andThen_ok,Instr.sureAddr,hb,run_sizeT hsz w,Sem.run_pure]
  split
  ·rfl
  ·rw [Addr.add_mid]
 ·cases h
end
section
variable {P : Program} {T : Tys} [TyOk P T] {O : Objs} {I : Nat → Int} {X : Nat → List Int → Int} {ρ : Map} {E : Nat → Int} {w w' : World} {m m' : Mem} {g g' : Gl}
def PartsOk (ρ : Map) (E : Nat → Int) : List (Nat × SA) → List (Nat × Value) → Prop
 | [],[]=>True
 | (i,x) :: l,(j,v) :: k=>i = j ∧ x.solid = true ∧ x.sat ρ E v ∧ PartsOk ρ E l k
 | _,_=>False
theorem partsOf_ok {ev : Ev} {a : Act} {f : Nat × Operand → Nat × Value} (hf : ∀ i x,f (i,x) = (i,a.eval x)) : ∀ {ps : List (Nat × Operand)} {qs : List (Nat × SA)},partsOf ev ps = some qs → EvOk ρ E ev a (ps.map (·.2)) → PartsOk ρ E qs (ps.map f)
 | [],qs,h,_=>by
  obtain rfl : [] = qs := by simpa [partsOf] using h
  trivial
 | (i,x) :: ps,qs,h,ho=>by
  simp only [partsOf] at h
  split at h
  ·rename_i v hv
   split at h
   ·rename_i hs
    split at h
    ·rename_i l hl
     injection h with h; subst h
     rw [List.map_cons,hf]
     exact ⟨rfl,hs,ho.agg (x := x) (by simp) hv,partsOf_ok hf hl fun y hy=>ho y (by simp at hy ⊢; exact .inr hy)⟩
    ·cases h
   ·cases h
  ·cases h
theorem foldl_place : ∀ (vs : List Value) (k : Nat) (cs : List Value) (off : Nat),((vs.zipIdx k).foldl (fun (cs : Array Value) (p : Value × Nat)=>cs.setIfInBounds (off + p.2) p.1) cs.toArray) = (placeV cs (off + k) vs).toArray
 | [],_,_,_=>rfl
 | v :: vs,k,cs,off=>by
  simp only [List.zipIdx_cons,List.foldl_cons,placeV]
  have := foldl_place vs (k + 1) (cs.set (off + k) v) off
  simp only [List.setIfInBounds_toArray]
  rw [this]
  rfl
theorem fill_ok {at_ : Nat → Option (Nat × Nat)} : ∀ {qs : List (Nat × SA)} {vs : List (Nat × Value)} {ls ls' : List Leaf} {cs : List Value},fillS at_ ls qs = some ls' → PartsOk ρ E qs vs → sats ρ E ls cs → ls.length = cs.length →
  ∃ cs',Instr.fill at_ cs.toArray vs = some cs'.toArray ∧ sats ρ E ls' cs' ∧ ls'.length = cs'.length ∧ cs'.length = cs.length
 | [],[],ls,ls',cs,h,_,hs,hl=>by
  obtain rfl : ls = ls' := by simpa [fillS] using h
  exact ⟨cs,rfl,hs,hl,rfl⟩
 | (i,x) :: qs,(j,v) :: vs,ls,ls',cs,h,hp,hs,hl=>by
  obtain ⟨rfl,hso,hv,hp⟩ := hp
  simp only [fillS] at h
  split at h
  ·rename_i off n ha
   split at h
   ·rename_i hc
    obtain ⟨s1,s2⟩ := solid_cells hso hv
    obtain ⟨cs',k1,k2,k3,k4⟩ := fill_ok (cs := placeV cs off v.cells.toList) h hp (place_ok off s2.symm s1 hs) (by rw [place_len,placeV_len]; exact hl)
    refine ⟨cs',?_,k2,k3,by rw [k4,placeV_len]⟩
    have hz : v.cells.size = n := by rw [← hc.1,← s2]; simp
    simp only [Instr.fill,ha]
    rw [if_neg (by simp [hz]; omega)]
    have hf := foldl_place v.cells.toList 0 cs off
    simp only [Nat.add_zero] at hf
    rw [← k1,← hf]
    congr 1
    rw [← Array.toList_zipIdx,Array.foldl_toList]
   ·cases h
  ·cases h
 | [],_ :: _,_,_,_,_,hp,_,_=>hp.elim
 | _ :: _,[],_,_,_,_,hp,_,_=>hp.elim
theorem zeroT_ok {t : TypeId} {z : List Leaf} (h : zeroT T t = some z) : ∃ i v,P.info? t = some i ∧ i.zero = some v ∧ z = v.cells.toList.map leafOf := by
 unfold zeroT at h
 cases hi : T t with
 | none=>rw [hi] at h; simp at h
 | some i =>
  rw [hi] at h
  cases hz : i.info.zero with
  | none=>simp [hz] at h
  | some v=>exact ⟨i.info,v,(TyOk.ok t i hi).2,hz,by simpa [hz] using h.symm⟩
theorem flat_get {α : Type} {z : List α} {n : Nat} (hz : z.length = n) (h0 : 0 < n) : ∀ {len i : Nat},i < len * n → (List.replicate len z).flatten[i]? = z[i % n]?
 | 0,i,h=>by omega
 | len + 1,i,h=>by
  rw [List.replicate_succ,List.flatten_cons]
  rcases Nat.lt_or_ge i n with hi | hi
  ·rw [List.getElem?_append_left (by omega),Nat.mod_eq_of_lt hi]
  ·rw [List.getElem?_append_right (by omega),hz,flat_get hz h0 (by rw [Nat.succ_mul] at h; omega)]
   congr 1
   conv=>rhs; rw [← Nat.sub_add_cancel hi]
   rw [Nat.add_mod_right]
theorem flat_len {α : Type} {z : List α} {n : Nat} (hz : z.length = n) (len : Nat) : (List.replicate len z).flatten.length = len * n := by
 simp [List.length_flatten,hz]
theorem flat_zero {z : Array Value} {n len : Nat} (hz : z.toList.length = n) (h0 : 0 < n) : (Array.range (len * n)).map (fun i=>z[i % z.size]!) = (List.replicate len z.toList).flatten.toArray := by
 have hs : z.size = n := by simpa using hz
 apply Array.ext'
 apply List.ext_getElem?
 intro i
 rcases Nat.lt_or_ge i (len * n) with hi | hi
 ·have h1 := flat_get hz h0 hi
  have hm : i % n < z.size := by rw [hs]; exact Nat.mod_lt _ h0
  rw [List.toList_toArray,h1]
  have hm' : i % z.size < z.size := by rw [hs] at hm ⊢; exact hm
  rw [← hs]
  simp [hs ▸ hi,hm',getElem!_pos]
 ·rw [List.getElem?_eq_none (by simp; omega),List.getElem?_eq_none (by simp [List.length_flatten]; rw [hs]; exact hi)]
theorem flat_sats {z : Array Value} : ∀ (len : Nat),sats ρ E (List.replicate len (z.toList.map leafOf)).flatten (List.replicate len z.toList).flatten
 | 0=>trivial
 | len + 1=>by
  rw [List.replicate_succ,List.flatten_cons,List.replicate_succ,List.flatten_cons]
  exact sats_app (by simp) (leafs_ok _) (flat_sats len)
theorem run_buildSlice {t e : TypeId} {n len : Nat} {z : List Leaf} {qs : List (Nat × SA)} {vs : List (Nat × Value)} {ls : List Leaf} (ht : P.underlying t = some (.slice e)) (hsz : sizeT T e = some n) (hzt : zeroT T e = some z)
  (hz : z.length = n) (h0 : 0 < n) (h24 : len * n ≤ 2 ^ 24) (hf : fillS (fun i=>some (i * n,n)) (List.replicate len z).flatten qs = some ls) (hp : PartsOk ρ E qs vs) (w : World) :
  ∃ cs : List Value,(Instr.buildSlice t len vs.toArray).run P w = .ok (.slice (some ⟨w.heap.size,0,none⟩) len len) { w with heap := w.heap.push (.cells cs.toArray e) } ∧ sats ρ E ls cs := by
 obtain ⟨i,v,hi,hiz,rfl⟩ := zeroT_ok (P := P) hzt
 have hzl : v.cells.toList.length = n := by simpa using hz
 obtain ⟨cs,k1,k2,k3,k4⟩ := fill_ok hf hp (flat_sats (z := v.cells) len) (by rw [flat_len hz,flat_len hzl])
 refine ⟨cs,?_,k2⟩
 have hfz := flat_zero (len := len) hzl h0
 unfold Instr.buildSlice
 simp only [Sem.run_bind,run_under ht w,Result.andThen_ok,run_sizeT hsz w]
 rw [if_neg (by omega)]
 have hmap : (Array.range (len * n)).map (fun i=>(if len * n = 0 then (#[] : Array Value) else v.cells)[i % (if len * n = 0 then (#[] : Array Value) else v.cells).size]!) = (List.replicate len v.cells.toList).flatten.toArray := by
  split
  ·rename_i h
   have : len = 0 := by
    rcases Nat.mul_eq_zero.1 h with h | h
    ·exact h
    ·omega
   subst this
   simp
  ·exact hfz
 by_cases hl : len * n = 0
 ·rw [if_pos hl]
  simp only [if_pos hl] at hmap
  simp only [pure_bind,hmap,k1,Sem.run_bind]
  simp [newRow,newObj,Sem.run]
 ·rw [if_neg hl]
  simp only [if_neg hl] at hmap
  have hz1 : (zeroValue e).run P w = .ok v w := by simp [zeroValue,typeInfo,hi,hiz]
  simp only [pure_bind,Sem.run_bind,hz1,Result.andThen_ok,hmap,k1]
  simp [newRow,newObj,Sem.run]
theorem run_makeSlice {t e : TypeId} {n l c by_ : Nat} {z : List Leaf} {k1 k2 : IntKind} (ht : P.underlying t = some (.slice e)) (hsz : sizeT T e = some n) (hzt : zeroT T e = some z) (hby : bytesT T e = some by_)
  (hz : z.length = n) (h0 : 0 < n) (hb : c * by_ ≤ 2 ^ 40) (hlc : l ≤ c) (hc : c ≤ 2 ^ 40) (w : World) :
  ∃ cs : List Value,(Instr.makeSlice t (.int k1 l) (.int k2 c)).run P w = .ok (.slice (some ⟨w.heap.size,0,none⟩) l c) { w with heap := w.heap.push (.cells cs.toArray e) } ∧ sats ρ E (List.replicate c z).flatten cs := by
 obtain ⟨i,v,hi,hiz,rfl⟩ := zeroT_ok (P := P) hzt
 have hzl : v.cells.toList.length = n := by simpa using hz
 refine ⟨(List.replicate c v.cells.toList).flatten,?_,flat_sats c⟩
 have hib : i.bytes = by_ := by
  obtain ⟨i2,hi2,hb2⟩ := bytesT_ok (P := P) hby
  rw [hi] at hi2; obtain rfl := Option.some.inj hi2; exact hb2
 have hwl : IntKind.i64.wrap (l : Int) = l := wrap_small _ (by omega) (by omega)
 have hwc : IntKind.i64.wrap (c : Int) = c := wrap_small _ (by omega) (by omega)
 have hfz := flat_zero (len := c) hzl h0
 unfold Instr.makeSlice
 simp only [Sem.run_bind,run_under ht w,Result.andThen_ok,asInt,asIntOf,Sem.run_pure,typeInfo,hi,program,Sem.run,hwl,hwc]
 have hmul : (i.bytes : Int) * (c : Int) = ((c * by_ : Nat) : Int) := by rw [hib]; push_cast; exact Int.mul_comm _ _
 have hcond : (decide ((c : Int) < 0) || decide ((i.bytes : Int) * (c : Int) > 2 ^ 48) || decide ((l : Int) < 0) || decide ((l : Int) > (c : Int))) = false := by
  rw [hmul]
  simp only [Bool.or_eq_false_iff,decide_eq_false_iff_not]
  omega
 simp only [hcond,Bool.false_eq_true,if_false,Int.toNat_natCast,Sem.run_bind]
 have hroom : (askRoom (c * i.bytes)).run P w = .ok () w := by
  unfold askRoom
  rw [if_neg (by rw [hib]; unfold roomBytes; omega)]
  rfl
 simp only [hroom,Result.andThen_ok,run_sizeT hsz w]
 by_cases hl : c * n = 0
 ·have : c = 0 := by
   rcases Nat.mul_eq_zero.1 hl with h | h
   ·exact h
   ·omega
  subst this
  simp [newRow,newObj,Sem.run,show Array.range 0 = #[] from rfl]
 ·rw [if_neg hl]
  have hz1 : (zeroValue e).run P w = .ok v w := by simp [zeroValue,typeInfo,hi,hiz]
  simp only [pure_bind,Sem.run_bind,hz1,Result.andThen_ok,hfz]
  simp [newRow,newObj,Sem.run]
theorem rowL_ok {z : Nat} {l : Leaf} {ls : List Leaf} {n : Nat} {tx e' : TypeId} (hk : P.underlying tx = some (.slice e')) (h : rowL m z l = some ls) (hn : lenS l = some n) (hf : ls.all Leaf.firm = true)
  (hM : M O ρ E m.bs w) {v : Value} (hv : l.sat ρ E v) : ls.length = n * z ∧ ∃ vs : List Value,sats ρ E ls vs ∧ vs.length = n * z ∧ Src P z tx v n vs w := by
 have main : ∀ {id off len : Nat},(match getB m id with
   | some b=>if off + len * z ≤ b.cells.length then some ((b.cells.drop off).take (len * z)) else none
   | none=>none) = some ls → ∀ {L : Loc} {cap : Nat},ρ id = some L → v = .slice (some ⟨L.n,off,none⟩) len cap → ls.length = len * z ∧ ∃ vs : List Value,sats ρ E ls vs ∧ vs.length = len * z ∧ Src P z tx v len vs w := fun {id off len} h {L cap} hL hv=>by
  split at h
  ·rename_i b hb
   obtain ⟨h1,h2,h3⟩ := getB_ok hb
   split at h
   ·rename_i hle
    injection h with h
    obtain ⟨L',vs,k1,k2,k3,k4,bt5,k5,kty⟩ := hM.plain h1 h3
    rw [h2,hL] at k1
    obtain rfl : L = L' := by injection k1
    have hvl := sats_le k2
    have hlen : ls.length = len * z := by rw [← h]; exact take_drop_len hle
    have hlv : ((vs.drop off).take (len * z)).length = len * z := take_drop_len (by omega)
    have hsat : sats ρ E ls ((vs.drop off).take (len * z)) := by rw [← h]; exact sats_take _ (sats_drop off k2)
    refine ⟨hlen,_,hsat,hlv,?_⟩
    rw [hv]
    refine Src.ofSlice w hk _ len cap _ hlv (fun j u hu=>?_) (fun u hu=>plain_one (firms_plain hf hsat (by omega) u hu))
    rw [Addr.add_mid,cell_at k5]
    have hj : j < len * z := by have := (List.getElem?_eq_some_iff.1 hu).1; omega
    rw [List.getElem?_take_of_lt hj,List.getElem?_drop] at hu
    exact hu
   ·cases h
  ·cases h
 cases l with
 | nilS =>
  simp only [rowL] at h
  simp only [lenS] at hn
  injection h with h; subst h
  injection hn with hn; subst hn
  simp only [Leaf.sat] at hv
  subst hv
  exact ⟨by simp,[],trivial,by simp,Src.ofNil w hk 0⟩
 | slc id off len cap =>
  simp only [lenS] at hn
  injection hn with hn; subst hn
  obtain ⟨L,hL,hv⟩ := hv
  exact main h hL hv
 | slu id off len sz =>
  simp only [lenS] at hn
  injection hn with hn; subst hn
  obtain ⟨L,cap,hL,_,_,hv⟩ := hv
  exact main h hL hv
 | sla id off len =>
  simp only [lenS] at hn
  injection hn with hn; subst hn
  obtain ⟨L,cap,hL,_,hv⟩ := hv
  exact main h hL hv
 | _=>simp [rowL] at h
theorem rebind_ok (h : M O ρ E m.bs w) (hw : WF m) (hf : ρ m.nb = none) {b : SB} (hb : b ∈ m.bs) (ho : b.obj = none ∧ b.cs = []) {L : Loc} (hL : ρ b.id = some L) {ls : List Leaf} {vs : List Value} (hs : sats ρ E ls vs) (hl : vs.length = L.tot)
  {bt : TypeId} (hty : L.val = tyV bt) (hcell : w'.heap[L.n]? = some (.cells vs.toArray bt (0,0))) (hz : w'.heap.size = w.heap.size) (hk : ∀ x,x ≠ L.n → w'.heap[x]? = w.heap[x]?) (hio : Go.RowKit.Below 0 w w') :
  ∃ ρ',ρ' m.nb = some L ∧ M O ρ' E (⟨m.nb,[],ls,none⟩ :: m.bs.filter (·.id != b.id)) w' ∧ Ext ρ ρ' m ⟨⟨m.nb,[],ls,none⟩ :: m.bs.filter (·.id != b.id),m.nb + 1⟩ w w' := by
 obtain ⟨L0,vs0,hL0,_,hown,_,_⟩ := h.plain hb ho
 obtain rfl : L0 = L := by rw [hL] at hL0; injection hL0 with e; exact e.symm
 have hle := (more_le (L := L0) hf).lk
 have hne : ∀ b ∈ m.bs,b.id ≠ m.nb := fun b hb e=>by have := hw.2 b hb; omega
 have fl : ∀ x ∈ m.bs.filter (·.id != b.id),x ∈ m.bs ∧ x.id ≠ b.id := fun x hx=>by
  obtain ⟨h1,h2⟩ := List.mem_filter.1 hx
  exact ⟨h1,by simpa using h2⟩
 refine ⟨more ρ m.nb L0,more_self,⟨fun x hx hc=>?_,fun x hx y hy hc hc' hne' K K' hK hK' z hz1 hz2=>?_,fun x hx hc K hK z hz1=>?_⟩,⟨hle,by omega,fun n hn hno=>hk n fun e=>hno b hb L0 hL (by rw [e]; exact (hown _).2 rfl),fun i=>?_,fun i K hi hK x hx=>?_,hio⟩⟩
 ·rcases List.mem_cons.1 hx with rfl | hx
  ·exact ⟨L0,vs,more_self,sats_mono hle _ hs,hown,hl,bt,hcell,hty⟩
  ·obtain ⟨x1,x2⟩ := fl x hx
   refine ((h.blk x x1 hc).mono hle (more_ne (hne x x1))).keep (by omega) fun K hK z hz'=>hk z fun e=>?_
   subst e
   rw [more_ne (hne x x1)] at hK
   exact h.disj x x1 b hb hc (allC_nil ho.2) x2 K L0 hK hL _ hz' ((hown _).2 rfl)
 ·rcases List.mem_cons.1 hx with rfl | hx <;> rcases List.mem_cons.1 hy with rfl | hy
  ·exact hne' rfl
  ·obtain ⟨y1,y2⟩ := fl y hy
   rw [more_ne (hne y y1)] at hK'
   simp only [more_self,Option.some.injEq] at hK
   subst hK
   exact h.disj y y1 b hb hc' (allC_nil ho.2) y2 K' L0 hK' hL z hz2 hz1
  ·obtain ⟨x1,x2⟩ := fl x hx
   rw [more_ne (hne x x1)] at hK
   simp only [more_self,Option.some.injEq] at hK'
   subst hK'
   exact h.disj x x1 b hb hc (allC_nil ho.2) x2 K L0 hK hL z hz1 hz2
  ·obtain ⟨x1,x2⟩ := fl x hx
   obtain ⟨y1,y2⟩ := fl y hy
   rw [more_ne (hne x x1)] at hK
   rw [more_ne (hne y y1)] at hK'
   exact h.disj x x1 y y1 hc hc' hne' K K' hK hK' z hz1 hz2
 ·rw [hz]
  rcases List.mem_cons.1 hx with rfl | hx
  ·simp only [more_self,Option.some.injEq] at hK
   subst hK
   exact h.low b hb (allC_nil ho.2) L0 hL z hz1
  ·obtain ⟨x1,x2⟩ := fl x hx
   rw [more_ne (hne x x1)] at hK
   exact h.low x x1 hc K hK z hz1
 ·by_cases hi : i = m.nb
  ·subst hi; exact .inl (.inl ⟨Nat.le_refl _,Nat.lt_succ_self _⟩)
  ·exact .inr (more_ne hi)
 ·by_cases he : i = m.nb
  ·subst he
   simp only [more_self,Option.some.injEq] at hi
   subst hi
   exact .inr ⟨b,hb,L0,hL,hx⟩
  ·exact absurd (more_ne he) hK
theorem St.rebind {b : SB} {id : Nat} (hid : b.id = m.nb) : St I X E g g m ⟨b :: m.bs.filter (·.id != id),m.nb + 1⟩ :=
 ⟨fun H=>H,Nat.le_succ _,fun x hx=>by
  rcases List.mem_cons.1 hx with rfl | hx
  ·exact .inr (by simp only; omega)
  ·exact .inl ⟨x,(List.mem_filter.1 hx).1,rfl⟩,fun h=>⟨List.pairwise_cons.2 ⟨fun x hx=>by rw [hid]; exact h.2 x (List.mem_filter.1 hx).1,h.1.sublist List.filter_sublist⟩,fun x hx=>by
  rcases List.mem_cons.1 hx with rfl | hx
  ·simp only; omega
  ·exact Nat.lt_succ_of_lt (h.2 x (List.mem_filter.1 hx).1)⟩⟩
theorem zeroCells_len {z : Array Value} {n k : Nat} (hz : z.size = n) : (Builtin.zeroCells z k).toList.length = k * n := by
 simp [Builtin.zeroCells,hz]
theorem evAppend_ok {t tx ty : TypeId} {e' : TypeId} {s x l : Leaf} (hk : P.underlying tx = some (.slice e')) (h : evAppend T m t s x = some (l,m')) : St I X E g g m m' ∧
  (∀ O ρ w vs vx,M O ρ E m.bs w → WF m → Fresh ρ m.nb m'.nb → s.sat ρ E vs → x.sat ρ E vx → ∃ ρ' u w',(Builtin.append_ #[t,tx] ty #[vs,vx]).run P w = .ok u w' ∧ l.sat ρ' E u ∧ M O ρ' E m'.bs w' ∧ Ext ρ ρ' m m' w w') := by
 unfold evAppend at h
 split at h
 ·rename_i e ht
  replace ht := und_ok (P := P) ht
  split at h
  ·rename_i z by_ n zs hz hby hn hzs
   split at h
   ·rename_i new hnew
    split at h
    ·rename_i hc
     obtain ⟨hfirm,hz0,hzl⟩ := hc
     obtain ⟨i,zv,hi,hiz,hze⟩ := zeroT_ok (P := P) hzs
     have hisz : i.size = z := by
      obtain ⟨i2,hi2,hb2⟩ := sizeT_ok (P := P) hz
      rw [hi] at hi2; obtain rfl := Option.some.inj hi2; exact hb2
     have hiby : i.bytes = by_ := by
      obtain ⟨i2,hi2,hb2⟩ := bytesT_ok (P := P) hby
      rw [hi] at hi2; obtain rfl := Option.some.inj hi2; exact hb2
     have hzv : zv.cells.size = z := by rw [← hzl,hze]; simp
     have src := fun {O : Objs} {ρ : Map} {w : World} (hM : M O ρ E m.bs w) {vx : Value} (hv : x.sat ρ E vx)=>rowL_ok (P := P) hk hnew hn hfirm hM hv
     have room : ∀ {L : Loc} {off len cap : Nat} {cs : List Value} {ρ : Map} {O : Objs} {w : World} {vx : Value},M O ρ E m.bs w → x.sat ρ E vx → w.heap[L.n]? = some (.cells cs.toArray e (0,0)) ∨ (∃ bt,w.heap[L.n]? = some (.cells cs.toArray bt (0,0))) →
       off + (len + n) * z ≤ cs.length → len + n ≤ cap → ∃ nv : List Value,sats ρ E new nv ∧ nv.length = n * z ∧ new.length = n * z ∧
        (Builtin.append_ #[t,tx] ty #[.slice (some ⟨L.n,off,none⟩) len cap,vx]).run P w = .ok (.slice (some ⟨L.n,off,none⟩) (len + n) cap) (w.setCells L.n (off + len * z) nv) := fun {L off len cap cs ρ O w vx} hM hv hh hle hcap=>by
      obtain ⟨l1,nv,s1,s2,s3⟩ := src hM hv
      have hh' : ∃ bt,w.heap[L.n]? = some (.cells cs.toArray bt (0,0)) := by
       rcases hh with h | h
       ·exact ⟨_,h⟩
       ·exact h
      obtain ⟨bt,hh'⟩ := hh'
      rw [Nat.add_mul] at hle
      have hth := there_of (k := nv.length) (off := off + len * z) hh' (by omega)
      refine ⟨nv,s1,s2,l1,?_⟩
      have := run_append_room_src w t tx ty e i ht hi L.n off len cap vx n nv (by rw [hisz]; exact s3) hcap (fun j hj=>by rw [hisz]; exact (hth j hj).1) (fun j hj=>by rw [hisz]; exact (hth j hj).2)
      rw [hisz] at this
      exact this
     have grow : ∀ {base : Option Addr} {len cap : Nat} {old : List Leaf} {ov : List Value} {ρ : Map} {O : Objs} {w : World} {vx : Value},M O ρ E m.bs w → WF m → Fresh ρ m.nb (m.nb + 1) → x.sat ρ E vx → sats ρ E old ov → ov.length = old.length → old.length = len * z →
       Src P z tx (.slice base len cap) len ov w → cap < len + n → (len + n) * by_ ≤ maxBytes → len + n ≤ maxBytes →
       ∃ ρ' u w',(Builtin.append_ #[t,tx] ty #[.slice base len cap,vx]).run P w = .ok u w' ∧ (Leaf.slu m.nb 0 (len + n) z).sat ρ' E u ∧ M O ρ' E (newB m e (old ++ new)).bs w' ∧ Ext ρ ρ' m (newB m e (old ++ new)) w w' :=
      fun {base len cap old ov ρ O w vx} hM hW hfr hv ho hol holn hsrc hcap hb1 hb2=>by
      obtain ⟨l1,nv,s1,s2,s3⟩ := src hM hv
      have hmx : maxBytes = 1099511627776 := rfl
      have hrun := run_append_grow_src w t tx ty e i zv ht hi hiz base len cap ov (by rw [hisz]; exact hsrc.cellsD) vx n nv (by rw [hisz]; exact s3) hcap (by omega) (growslice_fits hcap (by rw [hiby]; omega))
      have hcut : len + n ≤ grownCap w (len + n) cap e := by
       unfold grownCap
       exact Nat.le_add_right _ _
      obtain ⟨ρ',r1,r2,r3⟩ := alloc_ok (w' := w.drew.alloc (.cells ((ov ++ nv).toArray ++ Builtin.zeroCells zv.cells (grownCap w (len + n) cap e - (len + n))) e)) (t := e) (ls := old ++ new)
       (vs := ov ++ nv ++ (Builtin.zeroCells zv.cells (grownCap w (len + n) cap e - (len + n))).toList) hM hW (hfr _ (Nat.le_refl _) (Nat.lt_succ_self _)) (sats_pre (sats_app hol.symm ho s1)) (by
        simp only [World.alloc,World.drew]
        congr 2
        apply Array.ext'
        simp) ((Go.RowKit.Below.refl 0 w).drew.alloc (Nat.zero_le _) _)
      refine ⟨ρ',_,_,hrun,⟨_,grownCap w (len + n) cap e,r1,?_,hcut,rfl⟩,r2,r3⟩
      simp only [List.length_append,zeroCells_len hzv,s2,hol,holn,Nat.zero_add]
      rw [← Nat.add_mul,← Nat.add_mul]
      congr 1
      omega
     split at h
     ·rename_i hn0
      subst hn0
      have nothing : ∀ {L : Loc} {off len cap : Nat} {ρ : Map} {O : Objs} {w : World} {vx : Value},M O ρ E m.bs w → x.sat ρ E vx → len ≤ cap → (Builtin.append_ #[t,tx] ty #[.slice (some ⟨L.n,off,none⟩) len cap,vx]).run P w = .ok (.slice (some ⟨L.n,off,none⟩) len cap) w := fun {L off len cap ρ O w vx} hM hv hcap=>by
       obtain ⟨l1,nv,s1,s2,s3⟩ := src hM hv
       have hnv : nv = [] := by simpa using s2
       subst hnv
       have := run_append_room_src w t tx ty e i ht hi L.n off len cap vx 0 [] (by rw [hisz]; exact s3) hcap (fun j hj=>by simp at hj) (fun j hj=>by simp at hj)
       exact this
      split at h
      ·injection h with h; injection h with e1 e2; subst e1; subst e2
       refine ⟨St.rfl',fun O ρ w vs vx hM hW hfr hs hv=>⟨ρ,vs,w,?_,hs,hM,Ext.rfl'⟩⟩
       simp only [Leaf.sat] at hs
       subst hs
       obtain ⟨l1,nv,s1,s2,s3⟩ := src hM hv
       have hnv : nv = [] := by simpa using s2
       subst hnv
       have hc := s3.cells
       simp [Builtin.append_,run_underlying ht,run_underlying hk,sizeOf,typeInfo,hi,hisz,s3.len,hc]
      ·rename_i id off len cap
       split at h
       ·rename_i hcap
        injection h with h; injection h with e1 e2; subst e1; subst e2
        refine ⟨St.rfl',fun O ρ w vs vx hM hW hfr hs hv=>⟨ρ,vs,w,?_,hs,hM,Ext.rfl'⟩⟩
        obtain ⟨L,hL,rfl⟩ := hs
        exact nothing hM hv hcap
       ·cases h
      ·rename_i id off len sz
       injection h with h; injection h with e1 e2; subst e1; subst e2
       refine ⟨St.rfl',fun O ρ w vs vx hM hW hfr hs hv=>⟨ρ,vs,w,?_,hs,hM,Ext.rfl'⟩⟩
       obtain ⟨L,cap,hL,_,hcap,rfl⟩ := hs
       exact nothing hM hv hcap
      ·cases h
     ·rename_i hn0
      split at h
      ·split at h
       ·rename_i hb
        injection h with h; injection h with e1 e2; subst e1; subst e2
        refine ⟨St.newB,fun O ρ w vs vx hM hW hfr hs hv=>?_⟩
        simp only [Leaf.sat] at hs
        subst hs
        have := grow (base := none) (len := 0) (cap := 0) (old := []) (ov := []) hM hW hfr hv trivial rfl (by simp) (Src.ofNil w hk 0) (by omega) (by rw [Nat.zero_add]; exact hb.1) (by omega)
        simpa using this
       ·cases h
      ·rename_i id off len cap
       split at h
       ·rename_i hcap
        split at h
        ·rename_i b hb
         obtain ⟨h1,h2,h3⟩ := getB_ok hb
         split at h
         ·rename_i hle
          injection h with h; injection h with e1 e2; subst e1; subst e2
          refine ⟨St.setB (fun H=>H),fun O ρ w vs vx hM hW hfr hs hv=>?_⟩
          obtain ⟨L,hL,rfl⟩ := hs
          obtain ⟨L',bv,k1,k2,k3,k4,bt5,k5,kty⟩ := hM.plain h1 h3
          rw [h2,hL] at k1
          obtain rfl : L = L' := by injection k1
          have hbl := sats_le k2
          obtain ⟨nv,s1,s2,s2',s3⟩ := room hM hv (.inr ⟨_,k5⟩) (Nat.le_trans hle hbl) hcap
          obtain ⟨c1,c2,c3⟩ := setCells_placed (o := off + len * z) (vs := nv) k5
          have := store_ok hM hW h1 h3 (by rw [h2]; exact hL) (place_ok (off + len * z) (by omega) s1 k2) (by rw [placeV_len]; exact k4) kty c1 c2 c3 (setCells_io _ _ _ _)
          rw [h2] at this
          exact ⟨ρ,_,_,s3,⟨L,hL,rfl⟩,this.1,this.2⟩
         ·cases h
        ·cases h
       ·rename_i hcap
        split at h
        ·rename_i old hold
         split at h
         ·rename_i hb
          injection h with h; injection h with e1 e2; subst e1; subst e2
          refine ⟨St.newB,fun O ρ w vs vx hM hW hfr hs hv=>?_⟩
          obtain ⟨l1,ov,s1,s2,s3⟩ := rowL_ok (P := P) hk hold rfl hb.2.2 hM hs
          obtain ⟨L,hL,rfl⟩ := hs
          exact grow hM hW hfr hv s1 (by omega) l1 s3 (by omega) hb.1 hb.2.1
         ·cases h
        ·cases h
      ·rename_i id off len z'
       split at h
       ·rename_i b hb
        obtain ⟨h1,h2,h3⟩ := getB_ok hb
        split at h
        ·rename_i hc
         obtain ⟨c1,c2,c4,c5,c6,c7⟩ := hc
         injection h with h; injection h with e1 e2; subst e1; subst e2
         subst c1; subst c2
         refine ⟨St.rebind rfl,fun O ρ w vs vx hM hW hfr hs hv=>?_⟩
         have hrow : rowL m z' (.slu id 0 len z') = some b.cells := by
          simp only [rowL,hb]
          rw [if_pos (by omega),List.drop_zero,List.take_of_length_le (by omega)]
         obtain ⟨l1,ov,s1,s2,s3⟩ := rowL_ok (P := P) hk hrow rfl c7 hM hs
         obtain ⟨L,cap,hL,htot,hlc,rfl⟩ := hs
         by_cases hcap : len + n ≤ cap
         ·obtain ⟨L',bv,k1,k2,k3,k4,bt5,k5,kty⟩ := hM.plain h1 h3
          rw [h2,hL] at k1
          obtain rfl : L = L' := by injection k1
          have hmul : (len + n) * z' ≤ cap * z' := Nat.mul_le_mul_right _ hcap
          obtain ⟨nv,q1,q2,q2',q3⟩ := room hM hv (.inr ⟨_,k5⟩) (off := 0) (by omega) hcap
          obtain ⟨d1,d2,d3⟩ := setCells_placed (o := 0 + len * z') (vs := nv) k5
          have hmid : sats ρ E (b.cells ++ new) (placeV bv (0 + len * z') nv) := by
           rw [Nat.add_mul] at hmul
           rw [placeV_mid _ _ _ (by omega),← List.append_assoc]
           refine sats_pre (sats_app (by simp; omega) (sats_cut _ (by omega) k2) q1)
          obtain ⟨ρ',r1,r2,r3⟩ := rebind_ok hM hW (hfr _ (Nat.le_refl _) (Nat.lt_succ_self _)) h1 h3 (by rw [h2]; exact hL) hmid (by rw [placeV_len]; exact k4) kty d1 d2 d3 (setCells_io _ _ _ _)
          rw [h2] at r2 r3
          exact ⟨ρ',_,_,q3,⟨L,cap,r1,htot,hcap,rfl⟩,r2,r3⟩
         ·obtain ⟨ρ',u,w',r1,r2,r3,r4⟩ := grow hM hW hfr hv s1 (by omega) l1 s3 (by omega) c5 c6
          refine ⟨ρ',u,w',r1,r2,r3.sub fun y hy=>?_,r4.nbs rfl⟩
          rcases List.mem_cons.1 hy with rfl | hy
          ·exact List.mem_cons_self
          ·exact List.mem_cons_of_mem _ (List.mem_filter.1 hy).1
        ·cases h
       ·cases h
      ·cases h
    ·cases h
   ·cases h
  ·cases h
 ·cases h
end
theorem Ch.at_mem {E : Nat → Int} : ∀ ch : Ch,ch.at_ E ∈ ch.ids
 | .id n=>by simp [Ch.at_,Ch.ids]
 | .mix c a b=>by
  simp only [Ch.at_,Ch.ids,List.mem_append]
  split
  ·exact .inl a.at_mem
  ·exact .inr b.at_mem
theorem inCs_ok {E : Nat → Int} {p : Ref × Bool} : ∀ {l : List (Ref × Bool)},inCs p l = true → allC E l = true → (truth (p.1.val E) == p.2) = true
 | [],h,_=>by cases h
 | q :: l,h,ha=>by
  simp only [allC,List.all_cons,Bool.and_eq_true] at ha
  simp only [inCs,Bool.or_eq_true,Bool.and_eq_true,beq_iff_eq] at h
  rcases h with ⟨h1,h2⟩ | h
  ·rw [Ref.same_ok h1,h2]; exact ha.1
  ·exact inCs_ok h ha.2
section
variable {O : Objs} {I : Nat → Int} {X : Nat → List Int → Int} {ρ : Map} {E : Nat → Int} {w : World} {g g' : Gl}
theorem isSla_ok {off len : Nat} : ∀ {ch : Ch} {l : Leaf},isSla off len ch l = true → ∀ v,l.sat ρ E v → ∃ L cap,ρ (ch.at_ E) = some L ∧ len ≤ cap ∧ v = .slice (some ⟨L.n,off,none⟩) len cap
 | .id n,l,h,v,hv=>by
  cases l <;> simp only [isSla,Bool.and_eq_true] at h <;> try (cases h; done)
  ·obtain ⟨⟨⟨h1,h2⟩,h3⟩,h4⟩ := h
   rw [Nat.eq_of_beq_eq_true h1,Nat.eq_of_beq_eq_true h2] at hv
   obtain ⟨L,hL,hv⟩ := hv
   rw [Nat.eq_of_beq_eq_true h3] at hv h4
   exact ⟨L,_,hL,Nat.le_of_ble_eq_true h4,hv⟩
  ·obtain ⟨⟨h1,h2⟩,h3⟩ := h
   rw [Nat.eq_of_beq_eq_true h1,Nat.eq_of_beq_eq_true h2,Nat.eq_of_beq_eq_true h3] at hv
   obtain ⟨L,cap,hL,_,hl,hv⟩ := hv
   exact ⟨L,cap,hL,hl,hv⟩
  ·obtain ⟨⟨h1,h2⟩,h3⟩ := h
   rw [Nat.eq_of_beq_eq_true h1,Nat.eq_of_beq_eq_true h2,Nat.eq_of_beq_eq_true h3] at hv
   exact hv
 | .mix c a b,l,h,v,hv=>by
  cases l <;> simp only [isSla,Bool.and_eq_true] at h <;> try (cases h; done)
  obtain ⟨⟨h0,h1⟩,h2⟩ := h
  have h0 := Ref.same_ok h0
  subst h0
  simp only [Ch.at_]
  cases hc : truth (c.val E) with
  | true=>exact isSla_ok h1 v (hv.1 hc)
  | false=>exact isSla_ok h2 v (hv.2 hc)
theorem isOpq_ok : ∀ {ch : Ch} {l : Leaf},isOpq ch l = true → ∀ v,l.sat ρ E v → ∃ L,ρ (ch.at_ E) = some L ∧ v = L.val ∧ (∀ cs,v ≠ .agg cs) ∧ ∀ vs,v ≠ .tuple vs
 | .id n,l,h,v,hv=>by
  cases l <;> simp only [isOpq] at h <;> try (cases h; done)
  rw [Nat.eq_of_beq_eq_true h] at hv
  exact hv
 | .mix c a b,l,h,v,hv=>by
  cases l <;> simp only [isOpq,Bool.and_eq_true] at h <;> try (cases h; done)
  obtain ⟨⟨h0,h1⟩,h2⟩ := h
  have h0 := Ref.same_ok h0
  subst h0
  simp only [Ch.at_]
  cases hc : truth (c.val E) with
  | true=>exact isOpq_ok h1 v (hv.1 hc)
  | false=>exact isOpq_ok h2 v (hv.2 hc)
theorem allC_both {a b : List (Ref × Bool)} (h : allC E a = true) (h' : allC E b = true) : allC E (a ++ b) = true := by
 simp only [allC,List.all_append,Bool.and_eq_true] at *
 exact ⟨h,h'⟩
theorem againstT_ok {y : Bool} {r : Ref} (h : againstT y r = true) : truth (r.val E) ≠ y := by
 cases r with
 | c m=>simpa [againstT,Ref.val] using h
 | e i=>cases h
theorem againstN_ok {q : Int → Bool} {y : Bool} {r : Ref} (h : againstN q y r = true) : q (r.val E) ≠ y := by
 cases r with
 | c m=>simpa [againstN,Ref.val] using h
 | e i=>cases h
theorem eqR_ok (H : Good I X E g) {q : Int → Bool} {y : Bool} : ∀ (f : Nat) {r : Ref},q (r.val E) = y → allC E (eqR g q y f r) = true
 | 0,_,_=>rfl
 | f + 1,r,h=>by
  cases r with
  | c _=>rfl
  | e i =>
   simp only [eqR]
   split
   ·rename_i c a b hd
    have hv := at_ok H hd
    simp only [Ref.val] at h
    rw [hv,Df.den] at h
    refine allC_both ?_ ?_
    ·split
     ·rename_i ha
      cases hc : truth (c.val E) with
      | true=>rw [if_pos hc] at h; exact absurd h (againstN_ok ha)
      | false =>
       rw [if_neg (by rw [hc]; decide)] at h
       simp only [allC,List.all_cons,Bool.and_eq_true,hc]
       exact ⟨rfl,eqR_ok H f h⟩
     ·rfl
    ·split
     ·rename_i ha
      cases hc : truth (c.val E) with
      | false=>rw [if_neg (by rw [hc]; decide)] at h; exact absurd h (againstN_ok ha)
      | true =>
       rw [if_pos hc] at h
       simp only [allC,List.all_cons,Bool.and_eq_true,hc]
       exact ⟨rfl,eqR_ok H f h⟩
     ·rfl
   ·rfl
theorem allC_mem {P : List (Ref × Bool)} (h : allC E P = true) {r : Ref} {y : Bool} (hp : (r,y) ∈ P) : truth (r.val E) = y := by
 have := List.all_eq_true.1 h _ hp
 simpa using this
theorem allC_flat {P : List (Ref × Bool)} {F : Ref × Bool → List (Ref × Bool)} (h : ∀ p ∈ P,allC E (F p) = true) : allC E (P.flatMap F) = true := by
 simp only [allC,List.all_flatMap,List.all_eq_true] at *
 intro p hp x hx
 exact h p hp x hx
theorem expR_ok (H : Good I X E g) : ∀ (f : Nat) {r : Ref} {y : Bool},truth (r.val E) = y → allC E (expR g f (r,y)) = true
 | 0,r,y,h=>by simp [expR,allC,h]
 | f + 1,r,y,h=>by
  simp only [expR,allC,List.all_cons,Bool.and_eq_true,beq_iff_eq]
  refine ⟨h,?_⟩
  show allC E _ = true
  cases r with
  | c _=>rfl
  | e i =>
   simp only
   split
   ·rename_i x hd
    have hv := at_ok H hd
    refine expR_ok H f ?_
    simp only [Ref.val] at h
    rw [hv,Df.den,truth_ofB] at h
    rw [← h,Bool.not_not]
   ·rename_i a b hd
    have hv := at_ok H hd
    simp only [Ref.val] at h
    rw [hv,Df.den,truth_ofB] at h
    split
    ·rw [Bool.and_eq_true] at h
     simp only [allC,List.all_append,Bool.and_eq_true]
     exact ⟨expR_ok H f h.1,expR_ok H f h.2⟩
    ·rfl
   ·rename_i a b hd
    have hv := at_ok H hd
    simp only [Ref.val] at h
    rw [hv,Df.den,truth_ofB] at h
    split
    ·rfl
    ·rw [Bool.or_eq_false_iff] at h
     simp only [allC,List.all_append,Bool.and_eq_true]
     exact ⟨expR_ok H f h.1,expR_ok H f h.2⟩
   ·rename_i c a b hd
    have hv := at_ok H hd
    simp only [Ref.val] at h
    rw [hv,Df.den] at h
    refine allC_both ?_ ?_
    ·split
     ·rename_i ha
      cases hc : truth (c.val E) with
      | true=>rw [if_pos hc] at h; exact absurd h (againstT_ok ha)
      | false =>
       rw [if_neg (by rw [hc]; decide)] at h
       exact allC_both (expR_ok H f hc) (expR_ok H f h)
     ·rfl
    ·split
     ·rename_i ha
      cases hc : truth (c.val E) with
      | false=>rw [if_neg (by rw [hc]; decide)] at h; exact absurd h (againstT_ok ha)
      | true =>
       rw [if_pos hc] at h
       exact allC_both (expR_ok H f hc) (expR_ok H f h)
     ·rfl
   ·rename_i o k x z hd
    have hv := at_ok H hd
    simp only [Ref.val] at h
    rw [hv,Df.den] at h
    split
    ·rename_i n
     split
     ·rw [intSem,truth_ofB] at h
      exact allC_flat fun p hp=>expR_ok H f (allC_mem (eqR_ok H (q := fun m=>m == n) 20 h) hp)
     ·rw [intSem,truth_ofB] at h
      refine allC_flat fun p hp=>expR_ok H f (allC_mem (eqR_ok H (q := fun m=>m == n) 20 (y := !y) ?_) hp)
      rw [← h,bne,Bool.not_not]
      rfl
     ·rw [intSem,truth_ofB] at h
      exact allC_flat fun p hp=>expR_ok H f (allC_mem (eqR_ok H (q := fun m=>decide (m > n)) 20 h) hp)
     ·rfl
    ·rfl
   ·rfl
theorem unitR_ok (H : Good I X E g) {P : List (Ref × Bool)} (hP : allC E P = true) : ∀ {Q : List (Ref × Bool)},allC E Q = true → allC E (unitR g P Q) = true
 | [],_=>rfl
 | (r,y) :: l,h=>by
  simp only [allC,List.all_cons,Bool.and_eq_true,beq_iff_eq] at h
  have hin : ∀ {q : Ref × Bool},inCs q P = true → truth (q.1.val E) = q.2 := fun {q} hq=>by simpa using inCs_ok hq hP
  simp only [unitR]
  refine allC_both ?_ (unitR_ok H hP h.2)
  cases r with
  | c _=>rfl
  | e i =>
   simp only
   split
   ·rename_i a b hd
    have hv := at_ok H hd
    have h1 := h.1
    simp only [Ref.val] at h1
    rw [hv,Df.den,truth_ofB] at h1
    split
    ·rfl
    ·refine allC_both ?_ ?_
     ·split
      ·rename_i hi
       have := hin hi
       simp only at this
       rw [this,Bool.true_and] at h1
       simp [allC,h1]
      ·rfl
     ·split
      ·rename_i hi
       have := hin hi
       simp only at this
       rw [this,Bool.and_true] at h1
       simp [allC,h1]
      ·rfl
   ·rename_i a b hd
    have hv := at_ok H hd
    have h1 := h.1
    simp only [Ref.val] at h1
    rw [hv,Df.den,truth_ofB] at h1
    split
    ·refine allC_both ?_ ?_
     ·split
      ·rename_i hi
       have := hin hi
       simp only at this
       rw [this,Bool.false_or] at h1
       simp [allC,h1]
      ·rfl
     ·split
      ·rename_i hi
       have := hin hi
       simp only at this
       rw [this,Bool.or_false] at h1
       simp [allC,h1]
      ·rfl
    ·rfl
   ·rfl
theorem newR_ok {l P : List (Ref × Bool)} (h : allC E l = true) : allC E (newR l P) = true := by
 simp only [allC,newR,List.all_eq_true] at *
 intro x hx
 exact h x (List.mem_filter.1 hx).1
theorem moreP_ok (H : Good I X E g) {P : List (Ref × Bool)} (hP : allC E P = true) {r : Ref} {y : Bool} (h : truth (r.val E) = y) : allC E (moreP g (r,y) P) = true := by
 have h1 := allC_both (newR_ok (P := P) (expR_ok H 20 h)) hP
 exact allC_both (newR_ok (unitR_ok H h1 h1)) h1
theorem impR_ok (H : Good I X E g) : ∀ (f : Nat) {P : List (Ref × Bool)} {r : Ref} {y : Bool},allC E P = true → impR g f P (r,y) = true → truth (r.val E) = y
 | 0,_,_,_,_,h=>by simp [impR] at h
 | f + 1,P,r,y,hP,h=>by
  simp only [impR,Bool.or_eq_true] at h
  rcases h with h | h
  ·have := inCs_ok h hP
   simpa using this
  ·cases r with
   | c n=>simpa [Ref.val] using h
   | e i =>
    simp only at h
    split at h
    ·rename_i x hd
     have hv := at_ok H hd
     have := impR_ok H f hP h
     simp only [Ref.val]
     rw [hv,Df.den,truth_ofB,this,Bool.not_not]
    ·rename_i a b hd
     have hv := at_ok H hd
     simp only [Ref.val]
     rw [hv,Df.den,truth_ofB]
     split at h
     ·rw [Bool.and_eq_true] at h
      rw [impR_ok H f hP h.1,impR_ok H f hP h.2]; rfl
     ·rw [Bool.or_eq_true] at h
      rcases h with h | h
      ·rw [impR_ok H f hP h]; rfl
      ·rw [impR_ok H f hP h,Bool.and_false]
    ·rename_i a b hd
     have hv := at_ok H hd
     simp only [Ref.val]
     rw [hv,Df.den,truth_ofB]
     split at h
     ·rw [Bool.or_eq_true] at h
      rcases h with h | h
      ·rw [impR_ok H f hP h]; rfl
      ·rw [impR_ok H f hP h,Bool.or_true]
     ·rw [Bool.and_eq_true] at h
      rw [impR_ok H f hP h.1,impR_ok H f hP h.2]; rfl
    ·rename_i c a b hd
     have hv := at_ok H hd
     simp only [Ref.val]
     rw [hv,Df.den]
     split at h
     ·rename_i hc
      rw [if_pos (impR_ok H f hP hc)]
      exact impR_ok H f hP h
     ·split at h
      ·rename_i hc
       rw [if_neg (by rw [impR_ok H f hP hc]; exact Bool.false_ne_true)]
       exact impR_ok H f hP h
      ·rw [Bool.and_eq_true] at h
       cases hc : truth (c.val E) with
       | true =>
        rw [if_pos rfl]
        exact impR_ok H f (moreP_ok H hP hc) h.1
       | false =>
        rw [if_neg (by decide)]
        exact impR_ok H f (moreP_ok H hP hc) h.2
    ·cases h
theorem rowI_good {m : List SB} : ∀ {ch : Ch} {P : List (Ref × Bool)} {g g' : Gl} {o : Option Nat} {row : List Leaf},rowI m P ch g = some (o,row,g') → Good I X E g' → Good I X E g
 | .id n,P,g,g',o,row,h,H=>by
  simp only [rowI] at h
  split at h
  ·split at h
   ·injection h with h; injection h with e2 e; injection e with e3 e4; subst e4
    exact H
   ·cases h
  ·cases h
 | .mix c a b,P,g,g',o,row,h,H=>by
  simp only [rowI] at h
  split at h
  ·rename_i o1 la g1 h1
   split at h
   ·rename_i o2 lb g2 h2
    split at h
    ·rename_i hc
     obtain ⟨rfl,hl⟩ := hc
     rcases h3 : joinLs c la lb g2 with ⟨ls,g3⟩
     simp only [h3] at h
     injection h with h; injection h with e2 e; injection e with e3 e4; subst e2; subst e3; subst e4
     exact rowI_good h1 (rowI_good h2 (joinLs_ok hl h3 H).1)
    ·cases h
   ·cases h
  ·cases h
theorem rowI_ok {m : List SB} (hM : M O ρ E m w) : ∀ {ch : Ch} {P : List (Ref × Bool)} {g g' : Gl} {o : Option Nat} {row : List Leaf},rowI m P ch g = some (o,row,g') → (Good I X E g' → Good I X E g) ∧
  (Good I X E g' → allC E P = true → ∃ b ∈ m,allC E b.cs = true ∧ b.id = ch.at_ E ∧ b.obj = o ∧ b.cells.length = row.length ∧ ∀ vs,sats ρ E b.cells vs → sats ρ E row vs)
 | .id n,P,g,g',o,row,h=>by
  simp only [rowI] at h
  split at h
  ·rename_i b hb
   split at h
   ·rename_i hcs
    injection h with h; injection h with e2 e; injection e with e3 e4; subst e2; subst e3; subst e4
    refine ⟨fun H=>H,fun H hP=>⟨b,List.mem_of_find?_eq_some hb,?_,by simpa [Ch.at_] using List.find?_some hb,rfl,rfl,fun _ h=>h⟩⟩
    refine List.all_eq_true.2 fun p hp=>?_
    obtain ⟨r,y⟩ := p
    have := impR_ok H 40 hP (List.all_eq_true.1 hcs (r,y) hp)
    simpa using this
   ·cases h
  ·cases h
 | .mix c a b,P,g,g',o,row,h=>by
  simp only [rowI] at h
  split at h
  ·rename_i o1 la g1 h1
   split at h
   ·rename_i o2 lb g2 h2
    split at h
    ·rename_i hc
     obtain ⟨rfl,hl⟩ := hc
     rcases h3 : joinLs c la lb g2 with ⟨ls,g3⟩
     simp only [h3] at h
     injection h with h; injection h with e2 e; injection e with e3 e4; subst e2; subst e3; subst e4
     obtain ⟨a1,a2⟩ := rowI_ok hM h1
     obtain ⟨b1,b2⟩ := rowI_ok hM h2
     refine ⟨fun H=>a1 (b1 (joinLs_ok hl h3 H).1),fun H hP=>?_⟩
     obtain ⟨H2,k1⟩ := joinLs_ok hl h3 H
     simp only [Ch.at_]
     have hlen := joinLs_len (c := c) (xs := la) (ys := lb) (g := g2) hl
     rw [h3] at hlen
     simp only at hlen
     cases hc : truth (c.val E) with
     | true =>
      obtain ⟨x,x1,x2,x3,x4,x5,x6⟩ := a2 (b1 H2) (moreP_ok (a1 (b1 H2)) hP hc)
      exact ⟨x,x1,x2,by simpa using x3,x4,by rw [x5,hlen],fun vs hv=>k1 ρ vs (fun _=>x6 vs hv) (fun h=>by rw [hc] at h; cases h)⟩
     | false =>
      obtain ⟨x,x1,x2,x3,x4,x5,x6⟩ := b2 H2 (moreP_ok (b1 H2) hP hc)
      exact ⟨x,x1,x2,by simpa using x3,x4,by rw [x5,hlen,hl],fun vs hv=>k1 ρ vs (fun h=>by rw [hc] at h; cases h) (fun _=>x6 vs hv)⟩
    ·cases h
   ·cases h
  ·cases h
def mgMap (ρ : Map) (n i : Nat) : Map := fun j=>if j = n then ρ i else ρ j
theorem mgMap_le {n i : Nat} (h : ρ n = none) : Lk ρ (mgMap ρ n i) := fun j L hL=>⟨L,by
 unfold mgMap
 rw [if_neg (fun e=>by rw [e,h] at hL; cases hL)]
 exact hL,rfl,rfl,rfl⟩
theorem isOpl_ok : ∀ {ch : Ch} {l : Leaf},isOpl ch l = true → ∀ v,l.sat ρ E v → ∃ L,ρ (ch.at_ E) = some L ∧ v = L.val
 | .id n,l,h,v,hv=>by
  cases l <;> simp only [isOpl] at h <;> try (cases h; done)
  rw [Nat.eq_of_beq_eq_true h] at hv
  obtain ⟨L,hL,e,_⟩ := hv
  exact ⟨L,hL,e⟩
 | .mix c a b,l,h,v,hv=>by
  cases l <;> simp only [isOpl,Bool.and_eq_true] at h <;> try (cases h; done)
  obtain ⟨⟨h0,h1⟩,h2⟩ := h
  have h0 := Ref.same_ok h0
  subst h0
  simp only [Ch.at_]
  cases hc : truth (c.val E) with
  | true=>exact isOpl_ok h1 v (hv.1 hc)
  | false=>exact isOpl_ok h2 v (hv.2 hc)
theorem findIte_ok {c x y : Ref} : ∀ {ds : List Df} {n i : Nat},GoodL I X E n ds → findIte c x y ds n = some i → E i = if truth (c.val E) then x.val E else y.val E
 | [],_,_,_,h=>by simp [findIte] at h
 | _ :: _,0,_,_,h=>by simp [findIte] at h
 | d :: ds,n + 1,i,hg,h=>by
  simp only [findIte] at h
  split at h
  ·split at h
   ·rename_i hs
    injection h with h; subst h
    simp only [Bool.and_eq_true] at hs
    rw [Ref.same_ok hs.1,Ref.same_ok hs.2.1,Ref.same_ok hs.2.2]
    exact hg.1
   ·exact findIte_ok hg.2 h
  ·exact findIte_ok hg.2 h
theorem iteF_ok {c x y r : Ref} (h : g.iteF c x y = (r,g')) (H : Good I X E g') : Good I X E g ∧ r.val E = if truth (c.val E) then x.val E else y.val E := by
 unfold Gl.iteF at h
 split at h
 ·rename_i i hi
  injection h with e1 e2; subst e1; subst e2
  exact ⟨H,findIte_ok H.1 hi⟩
 ·exact ite_ok h H
theorem lenLf_ok : ∀ {l : Leaf} {r : Ref} {g g' : Gl},lenLf l g = some (r,g') → (Good I X E g' → Good I X E g) ∧ (Good I X E g' → ∀ ρ v,l.sat ρ E v → ∃ a len cap,v = .slice a len cap ∧ r.val E = (len : Nat)) := by
 intro l
 induction l with
 | opl id n =>
  intro r g g' h
  simp only [lenLf] at h
  injection h with h; injection h with e1 e2; subst e1; subst e2
  exact ⟨fun H=>H,fun _ ρ v ⟨_,_,_,a,len,cap,e,hn⟩=>⟨a,len,cap,e,hn⟩⟩
 | nilS =>
  intro r g g' h
  simp only [lenLf] at h
  injection h with h; injection h with e1 e2; subst e1; subst e2
  exact ⟨fun H=>H,fun _ ρ v e=>⟨none,0,0,e,rfl⟩⟩
 | slc i o n k =>
  intro r g g' h
  simp only [lenLf] at h
  injection h with h; injection h with e1 e2; subst e1; subst e2
  exact ⟨fun H=>H,fun _ ρ v ⟨_,_,e⟩=>⟨_,_,_,e,rfl⟩⟩
 | slu i o n k =>
  intro r g g' h
  simp only [lenLf] at h
  injection h with h; injection h with e1 e2; subst e1; subst e2
  exact ⟨fun H=>H,fun _ ρ v ⟨_,_,_,_,_,e⟩=>⟨_,_,_,e,rfl⟩⟩
 | sla i o n =>
  intro r g g' h
  simp only [lenLf] at h
  injection h with h; injection h with e1 e2; subst e1; subst e2
  exact ⟨fun H=>H,fun _ ρ v ⟨_,_,_,_,e⟩=>⟨_,_,_,e,rfl⟩⟩
 | mix c a b iha ihb =>
  intro r g g' h
  simp only [lenLf] at h
  split at h
  ·rename_i x g1 h1
   split at h
   ·rename_i y g2 h2
    rcases h3 : g2.iteF c x y with ⟨q,g3⟩
    rw [h3] at h
    injection h with h; injection h with e1 e2; subst e1; subst e2
    obtain ⟨a1,a2⟩ := iha h1
    obtain ⟨b1,b2⟩ := ihb h2
    refine ⟨fun H=>a1 (b1 (iteF_ok h3 H).1),fun H ρ v hv=>?_⟩
    obtain ⟨H2,hq⟩ := iteF_ok h3 H
    rw [hq]
    cases hc : truth (c.val E) with
    | true=>rw [if_pos rfl]; exact a2 (b1 H2) ρ v (hv.1 hc)
    | false=>rw [if_neg (by decide)]; exact b2 H2 ρ v (hv.2 hc)
   ·cases h
  ·cases h
 | _=>intro r g g' h; simp [lenLf] at h
theorem Mk.len_good {k : Mk} {l : Leaf} {r : Ref} (h : k.len l g = some (r,g')) (H : Good I X E g') : Good I X E g := by
 cases k with
 | ol=>exact (lenLf_ok h).1 H
 | sl o n=>simp only [Mk.len] at h; injection h with h; injection h with e1 e2; subst e2; exact H
 | ob=>simp only [Mk.len] at h; injection h with h; injection h with e1 e2; subst e2; exact H
theorem Mk.leaf_ok {k : Mk} {ch : Ch} {l : Leaf} (h : k.is ch l = true) {r : Ref} (hr : k.len l g = some (r,g')) (H : Good I X E g') {n : Nat} (hn : ch.at_ E ≠ n) {v : Value} (hv : l.sat (mgMap ρ n (ch.at_ E)) E v) : (k.leaf n r).sat (mgMap ρ n (ch.at_ E)) E v := by
 have e : ∀ {L : Loc},mgMap ρ n (ch.at_ E) (ch.at_ E) = some L → mgMap ρ n (ch.at_ E) n = some L := fun {L} hL=>by
  unfold mgMap at hL ⊢
  rw [if_neg hn] at hL
  rw [if_pos rfl]; exact hL
 cases k with
 | sl o len =>
  obtain ⟨L,cap,hL,hc,e1⟩ := isSla_ok h v hv
  exact ⟨L,cap,e hL,hc,e1⟩
 | ob =>
  obtain ⟨L,hL,e1⟩ := isOpq_ok h v hv
  exact ⟨L,e hL,e1⟩
 | ol =>
  obtain ⟨L,hL,e1⟩ := isOpl_ok h v hv
  obtain ⟨a,len,cap,e2,e3⟩ := (lenLf_ok hr).2 H _ v hv
  exact ⟨L,e hL,e1,a,len,cap,e2,e3⟩
theorem mergeL_ok {m m' : Mem} {l l' : Leaf} (h : mergeL m l g = some (l',m',g')) : St I X E g g' m m' ∧ m'.nb = m.nb + 1 ∧ m'.bs.length ≤ m.bs.length + 1 ∧
  (Good I X E g' → M O ρ E m.bs w → WF m → ρ m.nb = none → ∃ i,M O (mgMap ρ m.nb i) E m'.bs w ∧ Ext ρ (mgMap ρ m.nb i) m m' w w ∧ ∀ v,l.sat (mgMap ρ m.nb i) E v → l'.sat (mgMap ρ m.nb i) E v) := by
 unfold mergeL at h
 split at h
 ·rename_i k hk
  split at h
  ·rename_i ch hch
   split at h
   ·rename_i his
    split at h
    rotate_left
    ·cases h
    rename_i r g0 hlen
    split at h
    ·rename_i o row g1 hr
     injection h with h; injection h with e1 e; injection e with e2 e3; subst e1; subst e2; subst e3
     refine ⟨⟨fun H=>Mk.len_good hlen (rowI_good hr H),Nat.le_succ _,fun b hb=>?_,fun hW=>⟨?_,fun b hb=>?_⟩⟩,rfl,by simpa using List.length_filter_le _ _,fun H hM hW hn=>?_⟩
     ·rcases List.mem_cons.1 hb with rfl | hb
      ·exact .inr ⟨Nat.le_refl _,Nat.lt_succ_self _⟩
      ·exact .inl ⟨b,(List.mem_filter.1 hb).1,rfl⟩
     ·refine List.pairwise_cons.2 ⟨fun b hb=>hW.2 b (List.mem_filter.1 hb).1,hW.1.filter _⟩
     ·rcases List.mem_cons.1 hb with rfl | hb
      ·exact Nat.lt_succ_self _
      ·exact Nat.lt_succ_of_lt (hW.2 b (List.mem_filter.1 hb).1)
     ·obtain ⟨b,b1,b2,b3,b4,b5,b6⟩ := (rowI_ok hM hr).2 H rfl
      obtain ⟨L,vs,k1,k2,k3⟩ := hM.blk b b1 b2
      have hne : ∀ c ∈ m.bs.filter (fun b=>!ch.ids.contains b.id),c ∈ m.bs ∧ c.id ≠ b.id ∧ c.id ≠ m.nb := fun c hc=>by
       obtain ⟨c1,c2⟩ := List.mem_filter.1 hc
       refine ⟨c1,fun e=>?_,fun e=>?_⟩
       ·have : ch.at_ E ∈ ch.ids := ch.at_mem
        rw [e,b3] at c2
        simp [this] at c2
       ·have := hW.2 c c1
        omega
      have hat : mgMap ρ m.nb (ch.at_ E) m.nb = some L := by unfold mgMap; rw [if_pos rfl,← b3]; exact k1
      have hold : ∀ i,i ≠ m.nb → mgMap ρ m.nb (ch.at_ E) i = ρ i := fun i hi=>by unfold mgMap; rw [if_neg hi]
      have hle : Lk ρ (mgMap ρ m.nb (ch.at_ E)) := mgMap_le hn
      refine ⟨ch.at_ E,⟨fun c hc hcs=>?_,fun c hc c' hc' hcs hcs' hcc L1 L2 hL1 hL2=>?_,fun c hc hcs L1 hL1=>?_⟩,⟨hle,Nat.le_refl _,fun _ _ _=>rfl,fun i=>?_,fun i L1 hL1 hd x hx=>?_,Go.RowKit.Below.refl 0 w⟩,fun v hv=>Mk.leaf_ok his hlen (rowI_good hr H) (fun e=>by have := hW.2 b b1; omega) hv⟩
      ·rcases List.mem_cons.1 hc with rfl | hc
       ·refine ⟨L,vs,hat,sats_mono hle _ (b6 vs k2),?_⟩
        simp only
        rw [← b4]
        exact k3
       ·obtain ⟨c1,c2,c3⟩ := hne c hc
        exact (hM.blk c c1 hcs).mono hle (hold _ c3)
      ·rcases List.mem_cons.1 hc with rfl | hc <;> rcases List.mem_cons.1 hc' with rfl | hc'
       ·exact absurd rfl hcc
       ·obtain ⟨c1,c2,c3⟩ := hne c' hc'
        rw [hat] at hL1
        obtain rfl : L = L1 := by injection hL1
        rw [hold _ c3] at hL2
        exact hM.disj b b1 c' c1 b2 hcs' (fun e=>c2 e.symm) L L2 k1 hL2
       ·obtain ⟨c1,c2,c3⟩ := hne c hc
        rw [hat] at hL2
        obtain rfl : L = L2 := by injection hL2
        rw [hold _ c3] at hL1
        exact hM.disj c c1 b b1 hcs b2 c2 L1 L hL1 k1
       ·obtain ⟨c1,c2,c3⟩ := hne c hc
        obtain ⟨d1,d2,d3⟩ := hne c' hc'
        rw [hold _ c3] at hL1
        rw [hold _ d3] at hL2
        exact hM.disj c c1 c' d1 hcs hcs' hcc L1 L2 hL1 hL2
      ·rcases List.mem_cons.1 hc with rfl | hc
       ·rw [hat] at hL1
        obtain rfl : L = L1 := by injection hL1
        exact hM.low b b1 b2 L k1
       ·obtain ⟨c1,c2,c3⟩ := hne c hc
        rw [hold _ c3] at hL1
        exact hM.low c c1 hcs L1 hL1
      ·by_cases hi : i = m.nb
       ·exact .inl (.inl ⟨by omega,by show i < m.nb + 1; omega⟩)
       ·exact .inr (hold i hi)
      ·by_cases hi : i = m.nb
       ·subst hi
        rw [hat] at hL1
        obtain rfl : L = L1 := by injection hL1
        exact .inr ⟨b,b1,L,k1,hx⟩
       ·exact absurd (hold i hi) hd
    ·cases h
   ·cases h
  ·cases h
 ·cases h
theorem resL_ok (H : Good I X E g) {P : List (Ref × Bool)} (hP : allC E P = true) : ∀ {l : Leaf} {v : Value},l.sat ρ E v → (resL g P l).sat ρ E v := by
 intro l
 induction l with
 | mix c a b iha ihb =>
  intro v h
  simp only [resL]
  split
  ·rename_i hc
   exact iha (h.1 (impR_ok H 40 hP hc))
  ·split
   ·rename_i hc
    exact ihb (h.2 (impR_ok H 40 hP hc))
   ·exact ⟨fun hc=>iha (h.1 hc),fun hc=>ihb (h.2 hc)⟩
 | _=>intro v h; exact h
theorem resLs_ok (H : Good I X E g) {P : List (Ref × Bool)} (hP : allC E P = true) : ∀ {ls : List Leaf} {vs : List Value},sats ρ E ls vs → sats ρ E (ls.map (resL g P)) vs
 | [],_,_=>trivial
 | _ :: _,_ :: _,h=>⟨resL_ok H hP h.1,resLs_ok H hP h.2⟩
 | _ :: _,[],h=>h.elim
theorem resA_ok (H : Good I X E g) {P : List (Ref × Bool)} (hP : allC E P = true) {x : SA} {v : Value} (h : x.sat ρ E v) : (resA g P x).sat ρ E v := by
 cases x with
 | one l=>exact resL_ok H hP h
 | agg ls =>
  obtain ⟨cs,e,hl,hs⟩ := h
  exact ⟨cs,e,by rw [hl,List.length_map],resLs_ok H hP hs⟩
theorem resAs_ok (H : Good I X E g) {P : List (Ref × Bool)} (hP : allC E P = true) : ∀ {xs : List SA} {vs : List Value},satA ρ E xs vs → satA ρ E (xs.map (resA g P)) vs
 | [],[],_=>trivial
 | _ :: _,_ :: _,h=>⟨resA_ok H hP h.1,resAs_ok H hP h.2⟩
 | _ :: _,[],h=>h.elim
 | [],_ :: _,h=>h.elim
theorem resC_ok (H : Good I X E g) {P : List (Ref × Bool)} (hP : allC E P = true) {cs : List (Ref × Bool)} : allC E (resC g P cs) = allC E cs := by
 induction cs with
 | nil=>rfl
 | cons p cs ih =>
  simp only [resC,List.filter_cons]
  split
  ·show ((truth (p.1.val E) == p.2) && allC E (resC g P cs)) = _
   rw [ih]; rfl
  ·rename_i hp
   have hp' : impR g 40 P (p.1,p.2) = true := by simpa using hp
   show allC E (resC g P cs) = ((truth (p.1.val E) == p.2) && allC E cs)
   rw [ih,impR_ok H 40 hP hp',beq_self_eq_true,Bool.true_and]
theorem resV_ok (H : Good I X E g) {P : List (Ref × Bool)} (hP : allC E P = true) {x : SV} {v : Value} (h : x.sat ρ E v) : (resV g P x).sat ρ E v := by
 cases x with
 | a x=>exact resA_ok H hP h
 | tup xs =>
  obtain ⟨vs,e,hs⟩ := h
  exact ⟨vs,e,resAs_ok H hP hs⟩
 | whn cs x =>
  have he := resC_ok (E := E) H hP (cs := cs)
  simp only [resV]
  split
  ·rename_i hn
   rw [hn] at he
   exact resA_ok H hP (h.1 he.symm)
  ·rename_i c cs' hn
   rw [hn] at he
   exact ⟨fun hc=>resA_ok H hP (h.1 (he.symm.trans hc)),fun hc=>h.2 (he.symm.trans hc)⟩
theorem resBs_ok (H : Good I X E g) {P : List (Ref × Bool)} (hP : allC E P = true) {m : List SB} (hM : M O ρ E m w) : M O ρ E (m.map (resB g P)) w := by
 refine ⟨fun b hb hc=>?_,fun b hb b' hb' hc hc'=>?_,fun b hb hc=>?_⟩
 ·obtain ⟨b0,hb0,rfl⟩ := List.mem_map.1 hb
  obtain ⟨L,vs,hL,hs,ho⟩ := hM.blk b0 hb0 ((resC_ok H hP).symm.trans hc)
  exact ⟨L,vs,hL,resLs_ok H hP hs,ho⟩
 ·obtain ⟨b0,hb0,rfl⟩ := List.mem_map.1 hb
  obtain ⟨b1,hb1,rfl⟩ := List.mem_map.1 hb'
  exact hM.disj b0 hb0 b1 hb1 ((resC_ok H hP).symm.trans hc) ((resC_ok H hP).symm.trans hc')
 ·obtain ⟨b0,hb0,rfl⟩ := List.mem_map.1 hb
  exact hM.low b0 hb0 ((resC_ok H hP).symm.trans hc)
theorem resS_ok {s : Lo} {a : Act} (H : Good I X E g) (hR : R O ρ E s a w) : R O ρ E (resS g s) a w := by
 have hP := moreP_ok H (P := []) rfl hR.pc
 refine ⟨by simpa [resS] using hR.size,fun i x hx=>?_,hR.defers,resBs_ok H hP hR.mem,hR.pc⟩
 simp only [resS,List.getElem?_map,Option.map_eq_some_iff] at hx
 obtain ⟨y,hy,rfl⟩ := hx
 exact resV_ok H hP (hR.tmp i y hy)
theorem resS_ids {s : Lo} : (resS g s).mem.bs.map (·.id) = s.mem.bs.map (·.id) := by
 simp only [resS,List.map_map]
 rfl
theorem resS_wf {s : Lo} (h : WF s.mem) : WF (resS g s).mem := wf_ids h (by rw [resS_ids]; exact List.Sublist.refl _) (Nat.le_refl _)
theorem resS_mem {s : Lo} {i : Nat} : (∃ b0 ∈ (resS g s).mem.bs,b0.id = i) ↔ ∃ b0 ∈ s.mem.bs,b0.id = i := by
 constructor
 ·rintro ⟨b0,hb0,e⟩
  obtain ⟨b1,hb1,rfl⟩ := List.mem_map.1 hb0
  exact ⟨b1,hb1,e⟩
 ·rintro ⟨b0,hb0,e⟩
  exact ⟨resB g _ b0,List.mem_map.2 ⟨b0,hb0,rfl⟩,e⟩
theorem St.of_res {s : Lo} {m' : Mem} (h : St I X E g g' (resS g s).mem m') : St I X E g g' s.mem m' :=
 ⟨h.good,h.nb,fun b hb=>(h.ids b hb).imp resS_mem.1 id,fun hw=>h.wf (resS_wf hw)⟩
theorem Ext.of_res {s : Lo} {m' : Mem} {ρ' : Map} {w' : World} (h : Ext ρ ρ' (resS g s).mem m' w w') : Ext ρ ρ' s.mem m' w w' := by
 refine ⟨h.le,h.size,fun n hn hk=>h.keep n hn fun b hb L hL=>?_,fun i=>?_,fun i L h1 h2 x hx=>?_,h.io⟩
 ·obtain ⟨b0,hb0,rfl⟩ := List.mem_map.1 hb
  exact hk b0 hb0 L hL
 ·rcases h.chg i with (h1 | ⟨h1,b,hb,e⟩) | h1
  ·exact .inl (.inl h1)
  ·exact .inl (.inr ⟨h1,resS_mem.1 ⟨b,hb,e⟩⟩)
  ·exact .inr h1
 ·rcases h.new i L h1 h2 x hx with h3 | ⟨b,hb,L0,h3,h4⟩
  ·exact .inl h3
  ·obtain ⟨b0,hb0,rfl⟩ := List.mem_map.1 hb
   exact .inr ⟨b0,hb0,L0,h3,h4⟩
end
end Go.Proofs.YtbegodiligmphaaGreatDoor.Sy
