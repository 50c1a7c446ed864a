/- Part of the proof of BusProof. Input at Go's level, for the moments of DriveBus; a tick with what it reads. A tick of a drive as DriveBus plays it; the silence of the bus. Blocks that are made in a walk, and whole blocks written anew (as pl/XBox, pl/XRow); the tables and drives beside them. -/
import Derived.Laws.Rows
import Derived.Laws.Tables
import Derived.Test.YtbegodiligmphaaGreatDoorQb37
import Derived.Test.YtbegodiligmphaaGreatDoorQb38
import Derived.Test.YtbegodiligmphaaGreatDoorQb39
import Derived.Test.YtbegodiligmphaaGreatDoorQb40
namespace Go.Proofs.YtbegodiligmphaaGreatDoor.Sy
open Go
def cfPat : List Leaf := (List.range 73).map fun j=>if j = 3 then .int .i64 (.e 0) else if j = 4 then .int .i64 (.c 2) else .opq (obN + if j < 3 then j else j - 2)
def momL (f : Int) : List Leaf := [.int .u8 (.c 0),.int .u8 (.c 0),.int .i32 (.c 0),.int .i16 (.c 0),.int .i16 (.c 0),.int .i16 (.c 0),.int .i16 (.c 0),.int .u16 (.c f)]
abbrev momV (f : Int) : List Value := [.int .u8 0,.int .u8 0,.int .i32 0,.int .i16 0,.int .i16 0,.int .i16 0,.int .i16 0,.int .u16 f]
def inpArgs (L : MLit) (f : Int) : Bool := decide (L.args = [.a (.agg (momL f)),.a (.agg cfPat),.a (.one (.int .i64 (.c 0))),.a (.agg [.bool (.e 1),.bool (.e 2)])])
theorem inp_args : inpArgs m30n 1 = true ∧ inpArgs m30s 2 = true ∧ inpArgs m30t 0 = true := by decide +kernel
def opqMap (T : Nat → TypeId) (cs : List Value) : Map := fun i=>if i < 3 then tabMap T i else if i < obN then none else some ⟨0,0,fun _=>False,cs.getD (if i - obN < 3 then i - obN else i - obN + 2) default⟩
theorem cfPat_sats {T : Nat → TypeId} {E : Nat → Int} {n : Int} {xs : List Int} {cs : List Value} (h : CfgCells n xs cs) (hE : E 0 = n) : sats (opqMap T cs) E cfPat cs := by
 refine sats_iff.2 fun i l hl=>?_
 have hi : i < 73 := by
  have := (List.getElem?_eq_some_iff.1 hl).1
  simpa [cfPat] using this
 have hl' : l = (if i = 3 then .int .i64 (.e 0) else if i = 4 then .int .i64 (.c 2) else .opq (obN + if i < 3 then i else i - 2)) := by
  unfold cfPat at hl
  rw [List.getElem?_map,List.getElem?_range hi] at hl
  simpa using hl.symm
 subst hl'
 by_cases h3 : i = 3
 ·subst h3
  rw [if_pos rfl]
  exact ⟨_,h.counts,by show _ = Value.int .i64 (E 0); rw [hE]⟩
 rw [if_neg h3]
 by_cases h4 : i = 4
 ·subst h4
  rw [if_pos rfl]
  exact ⟨_,h.pairs,rfl⟩
 rw [if_neg h4]
 have hlt : i < cs.length := by rw [h.size]; exact hi
 refine ⟨cs[i],List.getElem?_eq_getElem hlt,?_⟩
 have hp := h.plain _ (List.getElem_mem hlt)
 refine ⟨⟨0,0,fun _=>False,cs[i]⟩,?_,rfl,hp.1,hp.2⟩
 unfold opqMap
 have e1 : ¬ (obN + if i < 3 then i else i - 2) < 3 := by unfold obN; omega
 have e2 : ¬ (obN + if i < 3 then i else i - 2) < obN := by omega
 rw [if_neg e1,if_neg e2]
 have e3 : (if (obN + if i < 3 then i else i - 2) - obN < 3 then (obN + if i < 3 then i else i - 2) - obN else (obN + if i < 3 then i else i - 2) - obN + 2) = i := by
  rw [Nat.add_sub_cancel_left]
  by_cases hi3 : i < 3
  ·rw [if_pos hi3,if_pos hi3]
  ·rw [if_neg hi3,if_neg (by omega)]; omega
 rw [e3,List.getD_eq_getElem?_getD,List.getElem?_eq_getElem hlt]
 rfl
def busIn (a b : Int) : List Int := [0,0,0,48000,25000,0,0,1,5,0,0,a,b,0]
def busLs (x y : Ref) (fl : Leaf) : SV := .a (.agg [.int .i64 (.c 0),.int .i64 (.c 0),.int .i64 (.c 0),.int .i64 (.c 48000),.int .i64 (.c 25000),.bool (.c 0),.bool (.c 0),.bool (.c 1),.int .i64 (.c 5),.bool (.c 0),.bool (.c 0),.bool x,.bool y,.bool (.c 0),fl])
theorem inp_outs : m30n.out = busLs (.e 41) (.e 43) .nilS ∧ m30s.out = busLs (.e 41) (.e 43) (.slu 19 1 9 1) ∧ m30t.out = busLs (.e 41) (.e 43) (.slu 19 0 10 1) := by decide +kernel
theorem inp_tabs : tabs3.all (fun b=>decide (b ∈ m30n.after)) = true ∧ tabs3.all (fun b=>decide (b ∈ m30s.after)) = true ∧ tabs3.all (fun b=>decide (b ∈ m30t.after)) = true := by decide +kernel
theorem inp_frame : (⟨19,[],fcL,none⟩ : SB) ∈ m30s.after ∧ (⟨19,[],fcL,none⟩ : SB) ∈ m30t.after := by decide +kernel
theorem input_run {L : MLit} {f : Int} (H : L.Holds (mkCx tb60) ObjD 20 6000 30) (ha : inpArgs L f = true) (hm : L.mem = tabs3) (hnt : L.nt = 3) (hk : L.k = 3) (hsup : L.sup = []) (htb : tabs3.all (fun b=>decide (b ∈ L.after)) = true) (hdm : L.dom = [(0,64,16384)])
  {fl : Leaf} (ho : L.out = busLs (.e 41) (.e 43) fl) {T : Nat → TypeId} {w : World} (hT : Tabs T w) {n : Int} {xs : List Int} {cs : List Value} (h : CfgCells n xs cs) (hn : 64 ≤ n ∧ n ≤ 16384) (p q : Bool) :
  Calls Tryz.prog 30 #[.agg (momV f).toArray,.agg cs.toArray,.int .i64 0,.agg #[.bool p,.bool q]] w fun e w'=>∃ (ρ' : Map) (E : Nat → Int) (fv : Value),e = .returned (.agg (inVs (ofL (busIn (E 41) (E 43))) ++ [fv]).toArray) ∧ fl.sat ρ' E fv ∧
   M ObjD ρ' E L.after w' ∧ Quiet w w' ∧ Tabs T w' ∧ ∀ b ∈ L.after,3 ≤ b.id → allC E b.cs = true → ∀ G,ρ' b.id = some G → ∀ x,G.own x → w.heap.size ≤ x := by
 have hd : InDom L.dom (ofL [n,ofB p,ofB q]) := fun x hx=>by
  rw [hdm] at hx
  obtain rfl : x = (0,64,16384) := by simpa using hx
  exact hn
 have hE : ∀ j,j < 3 → L.ent (mkCx tb60) 20 6000 30 [n,ofB p,ofB q] j = ofL [n,ofB p,ofB q] j := fun j hj=>H.inp _ hd j (by omega)
 have key := fun (vs : List Value)=>H.tabs (T := T) (ρ := opqMap T cs) (vs := vs) hm hnt htb hsup hd hT (fun i hi=>if_pos hi) (fun i h1 h2=>by unfold opqMap; rw [if_neg (by omega),if_pos (Nat.lt_of_lt_of_le h2 H.nb)])
 generalize L.ent (mkCx tb60) 20 6000 30 [n,ofB p,ofB q] = E at *
 refine Calls.mono (key [.agg (momV f).toArray,.agg cs.toArray,.int .i64 0,.agg #[.bool p,.bool q]] ?_) fun e w' he=>?_
 ·rw [of_decide_eq_true ha]
  refine ⟨⟨_,rfl,rfl,⟨rfl,rfl,rfl,rfl,rfl,rfl,rfl,rfl,trivial⟩⟩,⟨cs,rfl,by rw [h.size]; simp [cfPat],cfPat_sats h (hE 0 (by decide))⟩,rfl,⟨[.bool p,.bool q],rfl,rfl,⟨?_,?_,trivial⟩⟩,trivial⟩
  ·show Value.bool p = .bool (truth (E 1))
   rw [hE 1 (by decide)]; cases p <;> rfl
  ·show Value.bool q = .bool (truth (E 2))
   rw [hE 2 (by decide)]; cases q <;> rfl
 ·obtain ⟨ρ',u,e1,k1,k2,k3,k4,_,k6⟩ := he
  rw [ho] at k1
  obtain ⟨us,rfl,hl,hs⟩ := k1
  match us,hl,hs with
  | [v0,v1,v2,v3,v4,v5,v6,v7,v8,v9,v10,v11,v12,v13,v14],_,⟨s0,s1,s2,s3,s4,s5,s6,s7,s8,s9,s10,s11,s12,s13,s14,_⟩ =>
   refine ⟨ρ',E,v14,?_,s14,k2,k3,k4,k6⟩
   rw [e1,show v0 = _ from s0,show v1 = _ from s1,show v2 = _ from s2,show v3 = _ from s3,show v4 = _ from s4,show v5 = _ from s5,show v6 = _ from s6,show v7 = _ from s7,show v8 = _ from s8,show v9 = _ from s9,show v10 = _ from s10,show v11 = _ from s11,show v12 = _ from s12,show v13 = _ from s13]
   rfl
theorem input_none {T : Nat → TypeId} {w : World} (hT : Tabs T w) {n : Int} {xs : List Int} {cs : List Value} (h : CfgCells n xs cs) (hn : 64 ≤ n ∧ n ≤ 16384) (p q : Bool) :
  Calls Tryz.prog 30 #[.agg (momV 1).toArray,.agg cs.toArray,.int .i64 0,.agg #[.bool p,.bool q]] w fun e w'=>∃ a b,e = .returned (.agg (inVs (ofL (busIn a b)) ++ [Value.slice none 0 0]).toArray) ∧ Quiet w w' ∧ Tabs T w' :=
 Calls.mono (input_run (hold_m30n ObjD) inp_args.1 rfl rfl rfl rfl inp_tabs.1 rfl inp_outs.1 hT h hn p q) fun e w' he=>by
  obtain ⟨ρ',E,fv,e1,e2,_,e4,e5,_⟩ := he
  exact ⟨E 41,E 43,by rw [e1,show fv = _ from e2],e4,e5⟩
structure NewFr (w0 w : World) (F : Loc) : Prop where
 new : w0.heap.size ≤ F.n
 low : F.n < w.heap.size
 own : ∀ x,F.own x ↔ x = F.n
 cells : ∃ t vs,w.heap[F.n]? = some (.cells (List.toArray vs) t (0,0)) ∧ F.val = tyV t ∧ vs.length = F.tot ∧ ∀ (ρ : Map) (E : Nat → Int),sats ρ E fcL vs
theorem fcL_any {ρ ρ' : Map} {E E' : Nat → Int} {vs : List Value} (h : sats ρ E fcL vs) : sats ρ' E' fcL vs := by
 unfold fcL at h ⊢
 match vs,h with
 | _ :: _ :: _ :: _ :: _ :: _ :: _ :: _ :: _ :: _ :: _,⟨h0,h1,h2,h3,h4,h5,h6,h7,h8,h9,_⟩=>exact ⟨h0,h1,h2,h3,h4,h5,h6,h7,h8,h9,trivial⟩
theorem fr_new {L : MLit} {ρ' : Map} {E : Nat → Int} {w w' : World} (hb : (⟨19,[],fcL,none⟩ : SB) ∈ L.after) (hM : M ObjD ρ' E L.after w') (hn : ∀ b ∈ L.after,3 ≤ b.id → allC E b.cs = true → ∀ G,ρ' b.id = some G → ∀ x,G.own x → w.heap.size ≤ x) : ∃ F,ρ' 19 = some F ∧ NewFr w w' F := by
 obtain ⟨F,vs,h1,h2,h3,h4,t,h5,h6⟩ := hM.blk _ hb rfl
 exact ⟨F,h1,hn _ hb (by decide) rfl F h1 _ ((h3 _).2 rfl),hM.low _ hb rfl F h1 _ ((h3 _).2 rfl),h3,t,vs,h5,h6,h4,fun _ _=>fcL_any h2⟩
theorem input_cut {T : Nat → TypeId} {w : World} (hT : Tabs T w) {n : Int} {xs : List Int} {cs : List Value} (h : CfgCells n xs cs) (hn : 64 ≤ n ∧ n ≤ 16384) (p q : Bool) :
  Calls Tryz.prog 30 #[.agg (momV 2).toArray,.agg cs.toArray,.int .i64 0,.agg #[.bool p,.bool q]] w fun e w'=>∃ a b F c,e = .returned (.agg (inVs (ofL (busIn a b)) ++ [Value.slice (some ⟨F.n,1,none⟩) 9 c]).toArray) ∧ 9 ≤ c ∧ NewFr w w' F ∧ Quiet w w' ∧ Tabs T w' :=
 Calls.mono (input_run (hold_m30s ObjD) inp_args.2.1 rfl rfl rfl rfl inp_tabs.2.1 rfl inp_outs.2.1 hT h hn p q) fun e w' he=>by
  obtain ⟨ρ',E,fv,e1,⟨F,c,q1,_,q3,e2⟩,e3,e4,e5,e6⟩ := he
  obtain ⟨F',q4,q5⟩ := fr_new inp_frame.1 e3 e6
  rw [q1] at q4; injection q4 with q4; subst q4
  exact ⟨E 41,E 43,F,c,by rw [e1,e2],q3,q5,e4,e5⟩
theorem input_whole {T : Nat → TypeId} {w : World} (hT : Tabs T w) {n : Int} {xs : List Int} {cs : List Value} (h : CfgCells n xs cs) (hn : 64 ≤ n ∧ n ≤ 16384) (p q : Bool) :
  Calls Tryz.prog 30 #[.agg (momV 0).toArray,.agg cs.toArray,.int .i64 0,.agg #[.bool p,.bool q]] w fun e w'=>∃ a b F c,e = .returned (.agg (inVs (ofL (busIn a b)) ++ [Value.slice (some ⟨F.n,0,none⟩) 10 c]).toArray) ∧ 10 ≤ c ∧ NewFr w w' F ∧ Quiet w w' ∧ Tabs T w' :=
 Calls.mono (input_run (hold_m30t ObjD) inp_args.2.2 rfl rfl rfl rfl inp_tabs.2.2 rfl inp_outs.2.2 hT h hn p q) fun e w' he=>by
  obtain ⟨ρ',E,fv,e1,⟨F,c,q1,_,q3,e2⟩,e3,e4,e5,e6⟩ := he
  obtain ⟨F',q4,q5⟩ := fr_new inp_frame.2 e3 e6
  rw [q1] at q4; injection q4 with q4; subst q4
  exact ⟨E 41,E 43,F,c,by rw [e1,e2],q3,q5,e4,e5⟩
theorem isAdd_ok {x y : Ref} {D : Df} (h : isAdd x y D = true) : D = .bin .add .i64 x y := by
 unfold isAdd at h
 split at h
 ·rw [Bool.and_eq_true] at h
  rw [Ref.same_ok h.1,Ref.same_ok h.2]
 ·cases h
theorem isGtr_ok {x y : Ref} {D : Df} (h : isGtr x y D = true) : D = .bin .gtr .i64 x y := by
 unfold isGtr at h
 split at h
 ·rw [Bool.and_eq_true] at h
  rw [Ref.same_ok h.1,Ref.same_ok h.2]
 ·cases h
theorem isMn_ok {x y : Ref} {D : Df} (h : isMn x y D = true) : D = .mn x y := by
 unfold isMn at h
 split at h
 ·rw [Bool.and_eq_true] at h
  rw [Ref.same_ok h.1,Ref.same_ok h.2]
 ·cases h
def rsAt (L : MLit) (i : Nat) (r : Ref) : Bool := match numsIn drvM 141 root29 L.after with
 | some rs=>match rs[i]? with
  | some q=>q.same r
  | none=>false
 | none=>false
theorem rsAt_ok {L : MLit} {i : Nat} {r : Ref} (h : rsAt L i r = true) (E : Nat → Int) : ofL (nextF L E) i = r.val E := by
 unfold rsAt at h
 split at h
 rotate_left
 ·cases h
 rename_i rs hrs
 split at h
 rotate_left
 ·cases h
 rename_i q hq
 unfold nextF
 rw [hrs,Option.getD_some,ofL_map,List.getD_eq_getElem?_getD,hq,Option.getD_some,Ref.same_ok h]
theorem rs_p : rsAt m29p 76 (.e 279) = true ∧ rsAt m29p 112 (.e 355) = true ∧ rsAt m29p 19 (.e 19) = true := by decide +kernel
theorem rs_c : rsAt m29c 76 (.e 279) = true ∧ rsAt m29c 112 (.e 355) = true ∧ rsAt m29c 19 (.e 19) = true := by decide +kernel
theorem rs_v : rsAt m29v 76 (.c 0) = true ∧ rsAt m29v 112 (.e 352) = true ∧ rsAt m29v 19 (.e 19) = true := by decide +kernel
def inX (i N : List Int) : List Int := i ++ N.drop 14
theorem inX_lo {i N : List Int} (hi : i.length = 14) {j : Nat} (h : j < 14) : ofL (inX i N) j = ofL i j := by
 unfold inX ofL
 rw [List.getD_eq_getElem?_getD,List.getD_eq_getElem?_getD,List.getElem?_append_left (by omega)]
theorem inX_hi {i N : List Int} (hi : i.length = 14) {j : Nat} (h : 14 ≤ j) : ofL (inX i N) j = ofL N j := by
 unfold inX ofL
 rw [List.getD_eq_getElem?_getD,List.getD_eq_getElem?_getD,List.getElem?_append_right (by omega),List.getElem?_drop]
 congr 2; omega
def domIn (L : MLit) : Bool := L.dom.all fun p=>decide (p ∈ drvD) || ([0,1,2,3,4,8].contains p.1 && decide (p.2 = (-9223372036854775808,9223372036854775807)))
theorem dom_in : domIn m29p = true ∧ domIn m29c = true ∧ domIn m29v = true := by decide +kernel
theorem bus_dom {L : MLit} (h : domIn L = true) {N : List Int} (hd : InDom drvD (ofL N)) (a b : Int) : InDom L.dom (ofL (inX (busIn a b) N)) := fun p hp=>by
 have := List.all_eq_true.1 h p hp
 rw [Bool.or_eq_true] at this
 rcases this with h | h
 ·have h := of_decide_eq_true h
  have h14 : 14 ≤ p.1 := Nat.le_of_ble_eq_true (List.mem_filter.1 h).2
  rw [inX_hi rfl h14]
  exact hd p h
 ·rw [Bool.and_eq_true] at h
  obtain ⟨h1,h2⟩ := h
  have h2 := of_decide_eq_true h2
  rw [h2]
  have hm : p.1 ∈ [0,1,2,3,4,8] := by simpa using h1
  simp only [List.mem_cons,List.not_mem_nil,or_false] at hm
  have lo : ∀ {j : Nat} {n : Int},ofL (busIn a b) j = n → (-9223372036854775808 ≤ n ∧ n ≤ 9223372036854775807) → p.1 = j → j < 14 → (-9223372036854775808,9223372036854775807).1 ≤ ofL (inX (busIn a b) N) p.1 ∧ ofL (inX (busIn a b) N) p.1 ≤ (-9223372036854775808,9223372036854775807).2 := fun {j n} h1 h2 h3 h4=>by
   rw [h3,inX_lo rfl h4,h1]; exact h2
  rcases hm with e | e | e | e | e | e
  ·exact lo (n := 0) rfl (by decide) e (by decide)
  ·exact lo (n := 0) rfl (by decide) e (by decide)
  ·exact lo (n := 0) rfl (by decide) e (by decide)
  ·exact lo (n := 48000) rfl (by decide) e (by decide)
  ·exact lo (n := 25000) rfl (by decide) e (by decide)
  ·exact lo (n := 5) rfl (by decide) e (by decide)
def oneL : Leaf → Bool
 | .junk=>false
 | .cons _ _=>false
 | .mix _ a b=>oneL a && oneL b
 | _=>true
theorem oneL_ok {ρ : Map} {E : Nat → Int} : ∀ {l : Leaf} {v : Value},oneL l = true → l.sat ρ E v → v.oneCell' = true := by
 intro l
 induction l with
 | mix c a b iha ihb =>
  intro v h hs
  simp only [oneL,Bool.and_eq_true] at h
  cases hc : truth (c.val E) with
  | true=>exact iha h.1 (hs.1 hc)
  | false=>exact ihb h.2 (hs.2 hc)
 | junk=>intro v h; cases h
 | cons _ _ _ _=>intro v h; cases h
 | int k r=>intro v _ hs; rw [show v = _ from hs]; rfl
 | bool r=>intro v _ hs; rw [show v = _ from hs]; rfl
 | ptr i o=>intro v _ hs; obtain ⟨_,_,rfl⟩ := hs; rfl
 | pdx i o a b c=>intro v _ hs; obtain ⟨_,_,_,_,rfl⟩ := hs; rfl
 | slc i o a b=>intro v _ hs; obtain ⟨_,_,rfl⟩ := hs; rfl
 | slu i o a b=>intro v _ hs; obtain ⟨_,_,_,_,_,rfl⟩ := hs; rfl
 | sla i o a=>intro v _ hs; obtain ⟨_,_,_,_,rfl⟩ := hs; rfl
 | opq i =>
  intro v _ hs
  obtain ⟨_,_,_,h1,h2⟩ := hs
  cases v <;> first | rfl | exact absurd rfl (h1 _) | exact absurd rfl (h2 _)
 | opl i n=>intro v _ hs; obtain ⟨_,_,_,_,_,_,rfl,_⟩ := hs; rfl
 | nilP=>intro v _ hs; rw [show v = _ from hs]; rfl
 | nilI=>intro v _ hs; rw [show v = _ from hs]; rfl
 | nilS=>intro v _ hs; rw [show v = _ from hs]; rfl
 | nilF=>intro v _ hs; rw [show v = _ from hs]; rfl
 | ifc t x _=>intro v _ hs; obtain ⟨_,rfl,_⟩ := hs; rfl
 | fn f c _=>intro v _ hs; obtain ⟨_,rfl,_⟩ := hs; rfl
theorem tick_run2 {L : MLit} (H : L.Holds (mkCx tq4) ObjD 20 400 29) (hok : tickOk L = true ∧ callOk L = true) {fl : Leaf} (ha : tickArgs L fl = true) (hdi : domIn L = true) (hk : 141 ≤ L.k)
  (hout : ∃ ls,L.out = .tup [.agg ls,.one .nilI] ∧ ls.length = 11 ∧ (∃ x,ls[8]? = some (.bool x)) ∧ (∃ x,ls[9]? = some (.bool x)) ∧ ls.all oneL = true)
  {d : Nat} {S : Nat → Prop} {N : List Int} {w : World} (hD : Drv d S N w) (a b : Int) {T : Nat → TypeId} (hT : Tabs T w) {B : Option Loc} {fc : List Leaf} (hB : ∀ F,B = some F → FrAt fc S (ofL (inX (busIn a b) N)) w F)
  (hm : ∀ x ∈ L.mem,x ∈ drvM ∨ x = frB fc ∧ ∃ F,B = some F) {fv : Value} (hfv : ∀ ρ : Map,ρ 3 = B → fl.sat ρ (ofL (inX (busIn a b) N)) fv) :
  Calls Tryz.prog 29 #[.pointer (some ⟨d,0,none⟩),.agg (inVs (ofL (busIn a b)) ++ [fv]).toArray] w fun e w'=>∃ cs S' N' r0 r1,e = .returned (.tuple #[.agg (List.toArray cs),.nilIface]) ∧ cs.length = 11 ∧ (∀ v ∈ cs,v.oneCell' = true) ∧ cs[8]? = some (.bool r0) ∧ cs[9]? = some (.bool r1) ∧
   (∃ E,N' = nextF L E ∧ (∀ j,14 ≤ j → j < 141 → E j = ofL N j) ∧ E = L.ent (mkCx tq4) 20 400 29 (inX (busIn a b) N)) ∧ Drv d S' N' w' ∧ Tabs T w' ∧
   (∀ x,S' x → S x ∨ w.heap.size ≤ x ∨ ∃ F,B = some F ∧ x = F.n) ∧ (∀ x,x < w.heap.size → ¬ S x → (∀ F,B = some F → x ≠ F.n) → w'.heap[x]? = w.heap[x]?) ∧ w.heap.size ≤ w'.heap.size ∧ Go.RowKit.Below 0 w w' := by
 have hdm := bus_dom hdi hD.dom a b
 refine Calls.mono (hD.tick H hok.1 hok.2 ha (xs := inX (busIn a b) N) (fun j h1 _=>inX_hi rfl h1) hdm hB hm hfv) fun e w' he=>?_
 obtain ⟨ρ',u,S',e1,k1,k2,k3,k4,k5,k6,k7,k8,k9⟩ := he
 obtain ⟨ls,h1,h2,⟨x8,h8⟩,⟨x9,h9⟩,hone⟩ := hout
 rw [h1] at k1
 have hE : ∀ j,14 ≤ j → j < 141 → L.ent (mkCx tq4) 20 400 29 (inX (busIn a b) N) j = ofL N j := fun j hj1 hj2=>by
  rw [H.inp _ hdm j (by omega)]
  exact inX_hi rfl hj1
 generalize L.ent (mkCx tq4) 20 400 29 (inX (busIn a b) N) = E at *
 obtain ⟨us,rfl,hu⟩ := k1
 match us,hu with
 | [u0,u1],⟨⟨cs,c1,c2,c3⟩,c4,_⟩ =>
  have hT' := k9 T hT
  obtain ⟨y8,q1,q2⟩ := sats_iff.1 c3 8 _ h8
  obtain ⟨y9,q3,q4⟩ := sats_iff.1 c3 9 _ h9
  refine ⟨cs,S',_,_,_,?_,by omega,fun v hv=>?_,by rw [q1,show y8 = _ from q2],by rw [q3,show y9 = _ from q4],⟨E,rfl,hE,rfl⟩,k3,hT',k4,fun x hx hSx hFx=>?_,k7,k8⟩
  ·rw [e1,c1,show u1 = .nilIface from c4]
  ·obtain ⟨i,hi,rfl⟩ := List.getElem_of_mem hv
   have hi' : i < ls.length := by omega
   obtain ⟨v,e1,e2⟩ := sats_iff.1 c3 i _ (List.getElem?_eq_getElem hi')
   rw [List.getElem?_eq_getElem hi] at e1
   injection e1 with e1
   rw [e1]
   exact oneL_ok (List.all_eq_true.1 hone _ (List.getElem_mem hi')) e2
  ·by_cases h3 : x < 3
   ·rw [hT.at_ x h3,hT'.at_ x h3]
   ·exact k5 x (by omega) hx hSx hFx
theorem outs_bus : tickArgs m29p .nilS = true ∧ tickArgs m29c (.sla 3 1 9) = true ∧ tickArgs m29v (.sla 3 0 10) = true := by decide +kernel
theorem facts_of {L : MLit} (hdf : L.defAt (mkCx tq4) 20 400 29 busDefs = true) (hr : rsAt L 76 (.e 279) = true ∧ rsAt L 112 (.e 355) = true ∧ rsAt L 19 (.e 19) = true) {xs N : List Int} {E : Nat → Int} (hE : E = L.ent (mkCx tq4) 20 400 29 xs) (hN : ∀ j,14 ≤ j → j < 141 → E j = ofL N j)
  (h0 : 0 ≤ ofL N 76 ∧ ofL N 76 ≤ 100) (h1 : 0 ≤ ofL N 19 ∧ ofL N 19 ≤ 100) :
  ofL (nextF L E) 76 = min (ofL N 76 + 1) (ofL N 19 + 1) ∧ (truth (ofL (nextF L E) 112) = true ↔ ofL N 19 < min (ofL N 76 + 1) (ofL N 19 + 1)) ∧ ofL (nextF L E) 19 = ofL N 19 := by
 have hd := MLit.defAt_ok hdf xs
 rw [← hE] at hd
 obtain ⟨D1,a1,b1⟩ := hd _ (List.mem_cons_self)
 obtain ⟨D2,a2,b2⟩ := hd _ (List.mem_cons_of_mem _ List.mem_cons_self)
 obtain ⟨D3,a3,b3⟩ := hd _ (List.mem_cons_of_mem _ (List.mem_cons_of_mem _ List.mem_cons_self))
 obtain ⟨D4,a4,b4⟩ := hd _ (List.mem_cons_of_mem _ (List.mem_cons_of_mem _ (List.mem_cons_of_mem _ List.mem_cons_self)))
 rw [isAdd_ok a1] at b1
 rw [isAdd_ok a2] at b2
 rw [isMn_ok a3] at b3
 rw [isGtr_ok a4] at b4
 have b4 : truth (E 355) = decide (E 279 > E 19) := by rw [show E 355 = ofB (decide (E 279 > E 19)) from b4]; exact truth_ofB _
 simp only [Df.den,intSem,Ref.val] at b1 b2 b3
 rw [hN 76 (by decide) (by decide),IntWalk.i64_in _ (by omega)] at b1
 rw [hN 19 (by decide) (by decide),IntWalk.i64_in _ (by omega)] at b2
 rw [b1,b2] at b3
 refine ⟨by rw [rsAt_ok hr.1]; exact b3,?_,by rw [rsAt_ok hr.2.2]; exact hN 19 (by decide) (by decide)⟩
 rw [rsAt_ok hr.2.1,show Ref.val E (.e 355) = E 355 from rfl,b4,decide_eq_true_eq,b3,hN 19 (by decide) (by decide)]
theorem facts_v {xs N : List Int} {E : Nat → Int} (hE : E = m29v.ent (mkCx tq4) 20 400 29 xs) (hN : ∀ j,14 ≤ j → j < 141 → E j = ofL N j) (h1 : 0 ≤ ofL N 19) : truth (ofL (nextF m29v E) 112) = false := by
 have hd := MLit.defAt_ok m29v_defs xs
 rw [← hE] at hd
 obtain ⟨D1,a1,b1⟩ := hd _ (List.mem_cons_self)
 rw [isGtr_ok a1] at b1
 have b1 : truth (E 352) = decide (0 > E 19) := by rw [show E 352 = ofB (decide (0 > E 19)) from b1]; exact truth_ofB _
 have e19 := hN 19 (by decide) (by decide)
 rw [rsAt_ok rs_v.2.1,show Ref.val E (.e 352) = E 352 from rfl,b1]
 exact decide_eq_false (by omega)
end Go.Proofs.YtbegodiligmphaaGreatDoor.Sy
namespace Go.Proofs.YtbegodiligmphaaGreatDoor
open Go Go.RowKit
theorem box (w : World) (c : Array Value) (t : TypeId) {g B : Nat} {w0 : World} (hg : w.heap.size = g) (hb : Below B w0 w) (hB : B ≤ g) : ∃ W,w.alloc (.cells c t) = W ∧ W.heap.size = g + 1 ∧ Blk W g t c ∧ Below B w0 W :=
 ⟨_,rfl,by simp [hg],Blk.new' hg.symm,hb.alloc (by omega) _⟩
section
variable {w w' w0 : World} {g k : Nat} {t : TypeId} {cs cs' : Array Value} {B : Nat}
theorem Blk.row (h : Blk w g t cs) : Blk (w.setRow g cs') g t cs' := setRow_heap w g cs cs' t (0,0) h
theorem below_row (h : Below B w0 w) (hg : B ≤ g) : Below B w0 (w.setRow g cs') := ⟨h.os,h.tape,h.output,by simp; exact h.size,fun k hk=>(setRow_other w g k cs' (by omega)).trans (h.block k hk)⟩
theorem rowX (h : Blk w g t cs) (cs' : Array Value) {n : Nat} (hs : w.heap.size = n) (hb : Below B w0 w) (hB : B ≤ g) : ∃ W,w.setRow g cs' = W ∧ W.heap.size = n ∧ Blk W g t cs' ∧ Below B w0 W :=
 ⟨_,rfl,by simp [hs],h.row,below_row hb hB⟩
theorem run_storeCfg {P : Program} {cs : List Value} {old : Array Value} (h : Blk w g t old) (hl : cs.length = old.size) (h1 : ∀ v ∈ cs,v.oneCell' = true) : (storeCells ⟨g,0,none⟩ cs).run P w = .ok () (w.setRow g cs.toArray) := by
 have := run_storeCells_from (P := P) g t cs 0 old w h (by omega) h1
 simpa using this
theorem Blk.al2 {W : World} {o : Obj} (h : Blk w g t cs) (e : w.alloc o = W) : Blk W g t cs := e ▸ h.alloc o
theorem Blk.at_ (h : Blk w g t cs) (hk : w'.heap[g]? = w.heap[g]?) : Blk w' g t cs := hk.trans h
namespace Sy
theorem Tabs.below {T : Nat → TypeId} (h : Tabs T w) (hb : Below B w w') (hB : 3 ≤ B) : Tabs T w' := ⟨fun i hi=>(hb.block i (by omega)).trans (h.at_ i hi),Nat.le_trans h.size hb.size⟩
theorem one_cells {n : Int} {xs : List Int} {cs : List Value} (h : CfgCells n xs cs) : ∀ v ∈ cs,v.oneCell' = true := fun v hv=>by
 have := h.plain v hv
 cases v <;> first | rfl | exact absurd rfl (this.1 _) | exact absurd rfl (this.2 _)
structure Dv (T : Nat → TypeId) (B : Nat) (d : Nat) (N : List Int) (free : List Nat) (w : World) : Prop where
 ex : ∃ S,Drv d S N w ∧ (∀ x,S x → B ≤ x) ∧ ∀ x ∈ free,¬ S x
 tabs : Tabs T w
theorem Dv.toq {T : Nat → TypeId} {d : Nat} {N : List Int} {free : List Nat} (h : Dv T B d N free w) (hs : w.heap.size ≤ w'.heap.size) (hk : ∀ x,x < w.heap.size → x ∉ free → w'.heap[x]? = w.heap[x]?) (h3 : ∀ x ∈ free,3 ≤ x) : Dv T B d N free w' := by
 obtain ⟨⟨S,h1,h2,h4⟩,hT⟩ := h
 refine ⟨⟨S,h1.keep hs fun x hx=>?_,h2,h4⟩,⟨fun i hi=>(hk i (by have := hT.size; omega) fun hf=>by have := h3 i hf; omega).trans (hT.at_ i hi),Nat.le_trans hT.size hs⟩⟩
 rcases hx with hx | hx
 ·exact hk x (h1.low x hx).1 fun hf=>h4 x hf hx
 ·exact hk x (by have := hT.size; omega) fun hf=>by have := h3 x hf; omega
theorem Dv.new {T : Nat → TypeId} {d : Nat} {N : List Int} {free : List Nat} {g : Nat} (h : Dv T B d N free w) (hg : w.heap.size ≤ g) : Dv T B d N (g :: free) w := by
 obtain ⟨⟨S,h1,h2,h4⟩,hT⟩ := h
 refine ⟨⟨S,h1,h2,fun x hx=>?_⟩,hT⟩
 rcases List.mem_cons.1 hx with rfl | hx
 ·exact fun hS=>by have := (h1.low x hS).1; omega
 ·exact h4 x hx
theorem Dv.less {T : Nat → TypeId} {d : Nat} {N : List Int} {free free' : List Nat} (h : Dv T B d N free w) (hf : ∀ x ∈ free',x ∈ free) : Dv T B d N free' w := by
 obtain ⟨⟨S,h1,h2,h4⟩,hT⟩ := h
 exact ⟨⟨S,h1,h2,fun x hx=>h4 x (hf x hx)⟩,hT⟩
theorem Dv.faults {T : Nat → TypeId} {d : Nat} {N : List Int} {free : List Nat} (h : Dv T B d N free w) (hB : B ≤ w.heap.size) (hf : ∀ x ∈ free,x < w.heap.size) :
  Calls Tryz.prog 31 #[.pointer (some ⟨d,0,none⟩)] w fun e w'=>∃ A c X cx Y ny cy,e = .returned (.agg #[.slice (some ⟨A,0,none⟩) 11 c,.slice X 11 cx,.int .i64 (ofL N 63),.int .i64 (ofL N 64),.slice Y ny cy]) ∧ 11 ≤ c ∧ A < w'.heap.size ∧
   (∀ i,i < 11 → w'.cell? ⟨A,i,none⟩ = some (.bool (truth (ofL N (112 + i))))) ∧ Dv T B d N free w' ∧ w.heap.size ≤ w'.heap.size ∧ (∀ x,x < B → w'.heap[x]? = w.heap[x]?) ∧ (∀ x ∈ free,w'.heap[x]? = w.heap[x]?) ∧ Go.RowKit.Below 0 w w' := by
 obtain ⟨⟨S,h1,h2,h4⟩,hT⟩ := h
 refine Calls.mono (h1.faults hT) fun e w' he=>?_
 obtain ⟨A,c,X,cx,Y,ny,cy,S',e1,e2,el,e3,e4,_,e6,e7,e8,e9,e10⟩ := he
 refine ⟨A,c,X,cx,Y,ny,cy,e1,e2,el,e3,⟨⟨S',e4,fun x hx=>?_,fun x hx hS=>?_⟩,e6⟩,e9,fun x hx=>e8 x (by omega) fun hS=>by have := h2 x hS; omega,fun x hx=>e8 x (hf x hx) (h4 x hx),e10⟩
 ·rcases e7 x hx with h | h
  ·exact h2 x h
  ·omega
 ·rcases e7 x hS with h | h
  ·exact h4 x hx h
  ·have := hf x hx; omega
theorem outs_ok : (∃ ls,m29p.out = .tup [.agg ls,.one .nilI] ∧ ls.length = 11 ∧ (∃ x,ls[8]? = some (.bool x)) ∧ (∃ x,ls[9]? = some (.bool x)) ∧ ls.all oneL = true) ∧ ∃ ls,m29v.out = .tup [.agg ls,.one .nilI] ∧ ls.length = 11 ∧ (∃ x,ls[8]? = some (.bool x)) ∧ (∃ x,ls[9]? = some (.bool x)) ∧ ls.all oneL = true :=
 ⟨⟨_,rfl,rfl,⟨_,rfl⟩,⟨_,rfl⟩,rfl⟩,⟨_,rfl,rfl,⟨_,rfl⟩,⟨_,rfl⟩,rfl⟩⟩
theorem frM_mem : ∀ x ∈ frM,x ∈ drvM ∨ x = frB fcL := by decide +kernel
def Ticked (T : Nat → TypeId) (B d : Nat) (free : List Nat) (w : World) (P : List Int → Prop) (e : Ending) (w' : World) : Prop := ∃ cs N' r0 r1,e = .returned (.tuple #[.agg (List.toArray cs),.nilIface]) ∧ cs.length = 11 ∧ (∀ v ∈ cs,v.oneCell' = true) ∧ cs[8]? = some (.bool r0) ∧ cs[9]? = some (.bool r1) ∧
 P N' ∧ Dv T B d N' free w' ∧ w.heap.size ≤ w'.heap.size ∧ (∀ x,x < B → w'.heap[x]? = w.heap[x]?) ∧ (∀ x ∈ free,w'.heap[x]? = w.heap[x]?) ∧ Go.RowKit.Below 0 w w'
theorem frame_at {w1 : World} {F : Loc} {S : Nat → Prop} {E : Nat → Int} (h : NewFr w1 w F) (h3 : 3 ≤ w1.heap.size) (hS : ∀ x,S x → x < w1.heap.size) : FrAt fcL S E w F := by
 obtain ⟨t,vs,q1,q2,q3,q4⟩ := h.cells
 exact ⟨by have := h.new; omega,h.low,fun hx=>by have := hS _ hx; have := h.new; omega,h.own,t,vs,q1,q2,q3,fun ρ=>q4 ρ E⟩
theorem tick_any {L : MLit} (H : L.Holds (mkCx tq4) ObjD 20 400 29) (hok : tickOk L = true ∧ callOk L = true) {fl : Leaf} (ha : tickArgs L fl = true) (hdi : domIn L = true) (hk : 141 ≤ L.k)
  (hout : ∃ ls,L.out = .tup [.agg ls,.one .nilI] ∧ ls.length = 11 ∧ (∃ x,ls[8]? = some (.bool x)) ∧ (∃ x,ls[9]? = some (.bool x)) ∧ ls.all oneL = true)
  {T : Nat → TypeId} {d : Nat} {N : List Int} {free : List Nat} {w1 : World} (h : Dv T B d N free w1) (hq : Quiet w1 w) (hB : B ≤ w1.heap.size) (hf : ∀ x ∈ free,x < w1.heap.size) (a b : Int) {Fr : Option Loc}
  (hF : ∀ F,Fr = some F → NewFr w1 w F) (hm : ∀ x ∈ L.mem,x ∈ drvM ∨ x = frB fcL ∧ ∃ F,Fr = some F) {fv : Value} (hfv : ∀ (ρ : Map) (E : Nat → Int),ρ 3 = Fr → fl.sat ρ E fv)
  {P : List Int → Prop} (hP : ∀ E,E = L.ent (mkCx tq4) 20 400 29 (inX (busIn a b) N) → (∀ j,14 ≤ j → j < 141 → E j = ofL N j) → P (nextF L E)) :
  Calls Tryz.prog 29 #[.pointer (some ⟨d,0,none⟩),.agg (inVs (ofL (busIn a b)) ++ [fv]).toArray] w (Ticked T B d free w P) := by
 obtain ⟨⟨S,h1,h2,h4⟩,hT⟩ := h
 have hT2 : Tabs T w := ⟨fun i hi=>(hq.block i (by have := hT.size; omega)).trans (hT.at_ i hi),Nat.le_trans hT.size hq.size⟩
 have hD : Drv d S N w := h1.keep hq.size fun x hx=>by
  rcases hx with hx | hx
  ·exact hq.block x (h1.low x hx).1
  ·exact hq.block x (by have := hT.size; omega)
 have hqs := hq.size
 have hFn : ∀ F,Fr = some F → w1.heap.size ≤ F.n := fun F h=>(hF F h).new
 refine Calls.mono (tick_run2 H hok ha hdi hk hout hD a b hT2 (fun F h=>frame_at (hF F h) hT.size fun x hx=>(h1.low x hx).1) hm (fun ρ h=>hfv ρ _ h)) fun e w' he=>?_
 obtain ⟨cs,S',N',r0,r1,e1,e2,eo,e3,e4,⟨E,q1,q2,q3⟩,e5,e6,e7,e8,e9,e10⟩ := he
 subst q1
 refine ⟨cs,_,r0,r1,e1,e2,eo,e3,e4,hP E q3 q2,⟨⟨S',e5,fun x hx=>?_,fun x hx hS=>?_⟩,e6⟩,e9,fun x hx=>e8 x (by omega) (fun hS=>by have := h2 x hS; omega) fun F h e=>?_,fun x hx=>e8 x (by have := hf x hx; omega) (h4 x hx) fun F h e=>?_,e10⟩
 ·rcases e7 x hx with h | h | ⟨F,h,e⟩
  ·exact h2 x h
  ·omega
  ·have := hFn F h; omega
 ·have hl := hf x hx
  rcases e7 x hS with h | h | ⟨F,h,e⟩
  ·exact h4 x hx h
  ·omega
  ·have := hFn F h; omega
 ·have := hFn F h; omega
 ·have := hFn F h; have := hf x hx; omega
end Sy
end
end Go.Proofs.YtbegodiligmphaaGreatDoor
