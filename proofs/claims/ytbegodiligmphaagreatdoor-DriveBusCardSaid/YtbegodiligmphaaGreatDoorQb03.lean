/- Part of the proof of BusProof. A symbolic evaluator: regions that draw their order, whole. No program in sight. A symbolic evaluator: the ways through code. No program in sight. A symbolic evaluator: code, functions. No program in sight. A symbolic evaluator: functions; entries for definitions. No program in sight. A symbolic evaluator: entries for definitions; contracts out of evaluations. No program in sight. A symbolic evaluator: contracts out of evaluations. No program in sight. -/
import Derived.Test.YtbegodiligmphaaGreatDoorQb02
namespace Go.Proofs.YtbegodiligmphaaGreatDoor.Sy
open Go
section
variable {O : Objs} {I : Nat → Int} {X : Nat → List Int → Int} {ρ : Map} {E : Nat → Int} {w w' : World} {m m' : Mem} {g g' : Gl} {C : Cx} [TyOk C.P C.T] {call : CallF} {ops : Array Oper}
variable {ts : List SV} {m0 : List SB} {pc : Ref} {nb0 : Nat} {g0 : Gl}
theorem zip_drop {k j : Nat} {o : Oper} {rest : List (Oper × Nat)} (h : ops.toList.zipIdx.drop k = (o,j) :: rest) : j = k ∧ ops[k]? = some o ∧ ops.toList.zipIdx.drop (k + 1) = rest := by
 obtain ⟨h1,h2⟩ := drop_cons_get h
 rw [List.getElem?_zipIdx] at h1
 cases hk : ops.toList[k]? with
 | none=>rw [hk] at h1; cases h1
 | some x =>
  rw [hk] at h1
  simp only [Option.map_some,Option.some.injEq,Prod.mk.injEq,Nat.zero_add] at h1
  exact ⟨h1.2.symm,by rw [← h1.1,← Array.getElem?_toList]; exact hk,h2⟩
theorem ready_lt {listed : Array Bool} {i : Nat} (h : i ∈ Region.ready .any ops listed) (hz : listed.size = ops.size) : i < ops.size ∧ listed.getD i false = false := by
 obtain ⟨h1,o,ho,_⟩ := mem_ready.1 h
 have hi := (Array.getElem?_eq_some_iff.1 ho).1
 refine ⟨hi,?_⟩
 have hl : i < listed.size := by omega
 simp only [Array.getD,hl,dif_pos] at h1 ⊢
 exact h1
theorem apartL_ok {a b : List Nat} (h : apartL a b = true) : ∀ i ∈ a,i ∉ b := fun i hi hb=>by
 have := List.all_eq_true.1 h i hi
 simp [hb] at this
theorem finOf_sub {nd : Option (List Nat)} {fids : List Nat} (bs : List SB) : (finOf nd fids bs).Sublist bs := by
 unfold finOf
 split
 ·exact List.filter_sublist
 ·exact List.filter_sublist
omit [TyOk C.P C.T] in
theorem peek_eq {ts : List SV} {l : List SB} {n n' : Nat} {pc : Ref} {g g' : Gl} {o : Oper} {v : SV} {l' : List SB} {t : TypeId} {id off : Nat} (hp : pkOf (evX C ts) o = some (t,id,off)) (h : evOper C call ops ts ⟨l,n⟩ pc g o = some (v,⟨l',n'⟩,g')) :
  n' = n ∧ g' = g ∧ l' = l ∧ ∃ z b,v = .a z ∧ b ∈ l ∧ b.id = id ∧ (b.obj = none ∧ b.cs = []) ∧ partS C.T t b.cells off = some z ∧
   ∀ c : SB,c.id = id → (c.obj = none ∧ c.cs = []) → partS C.T t c.cells off = some z → evOper C call ops ts ⟨[c],n⟩ pc g o = some (v,⟨[c],n⟩,g) := by
 unfold pkOf at hp
 split at hp
 ·cases hp
 ·rename_i hg
  split at hp
  ·rename_i t' x hop
   split at hp
   ·rename_i id' off' hx
    injection hp with hp; injection hp with e1 e; injection e with e2 e3; subst e1; subst e2; subst e3
    have ev : ∀ l : List SB,evOper C call ops ts ⟨l,n⟩ pc g o = (loadL C.T t' ⟨l,n⟩ (.ptr id' off') g).map fun (v,g)=>(.a v,⟨l,n⟩,g) := fun l=>by
     unfold evOper
     simp only [hg,evAny,hop,evOp,evO_load,hx]
    rw [ev] at h
    obtain ⟨⟨z,g1⟩,hz,e⟩ := mapv h
    injection e with e1 e; injection e with e2 e3; injection e2 with e4 e5
    subst e1; subst e3; subst e4; subst e5
    simp only [loadL] at hz
    split at hz
    ·rename_i b hb
     obtain ⟨h1,h2,h3⟩ := getB_ok hb
     obtain ⟨y,hy,e⟩ := mapv hz
     injection e with e1 e2; subst e1; subst e2
     refine ⟨rfl,rfl,rfl,y,b,rfl,h1,h2,h3,hy,fun c c1 c2 c3=>?_⟩
     rw [ev]
     have hgc : getB ⟨[c],n⟩ id' = some c := by
      unfold getB
      simp [c1,c2.1,c2.2]
     simp only [loadL,hgc,c3,Option.map_some]
    ·cases hz
   ·cases hp
  ·cases hp
theorem finX_sub {pk : Option (TypeId × Nat × Nat)} {nd : Option (List Nat)} {fids : List Nat} (bs : List SB) : (finX pk nd fids bs).Sublist bs := by
 unfold finX
 split
 ·exact List.filter_sublist
 ·exact finOf_sub bs
theorem finX_cs {pk : Option (TypeId × Nat × Nat)} {nd : Option (List Nat)} {fids : List Nat} (bs : List SB) : ∀ b ∈ finX pk nd fids bs,b.cs = [] := fun b hb=>by
 have nil : ∀ l : List (Ref × Bool),l.isEmpty = true → l = [] := fun l h=>by cases l; rfl; cases h
 unfold finX at hb
 split at hb
 ·obtain ⟨_,h2⟩ := List.mem_filter.1 hb
  simp only [Bool.and_eq_true] at h2
  exact nil _ h2.2
 ·unfold finOf at hb
  split at hb
  ·obtain ⟨_,h2⟩ := List.mem_filter.1 hb
   simp only [Bool.and_eq_true] at h2
   exact nil _ h2.2
  ·obtain ⟨_,h2⟩ := List.mem_filter.1 hb
   simp only [Bool.and_eq_true] at h2
   exact nil _ h2.2
omit [TyOk C.P C.T] in
theorem evDraw_chain {b0 : Lo} {gb : Gl} : ∀ (rest : List (Oper × Nat)) (k : Nat) (s : Lo) (g : Gl) (recs : List Rec) (sF : Lo) (gF : Gl),ops.toList.zipIdx.drop k = rest →
  Chain C call ops b0.tmps b0.mem.bs b0.pc b0.mem.nb gb recs s.mem.bs s.mem.nb g → s.tmps = putAll b0.tmps recs → s.pc = b0.pc → (∀ j,j < k → ∃ r ∈ recs,r.i = j) → (∀ r ∈ recs,r.i < k) →
  evDraw C call ops (befs ops.toList []) rest s recs g = some (sF,gF) →
  ∃ RS,Chain C call ops b0.tmps b0.mem.bs b0.pc b0.mem.nb gb RS sF.mem.bs sF.mem.nb gF ∧ sF.tmps = putAll b0.tmps RS ∧ sF.pc = b0.pc ∧ ∀ j,j < ops.size → ∃ r ∈ RS,r.i = j
 | [],k,s,g,recs,sF,gF,hrest,hch,ht,hpc,hcov,hin,h=>by
  simp only [evDraw] at h
  injection h with h; injection h with e1 e2; subst e1; subst e2
  have hk : ops.size ≤ k := by
   have := congrArg List.length hrest
   simp at this; omega
  exact ⟨recs,hch,ht,hpc,fun j hj=>hcov j (by omega)⟩
 | (o,j) :: rest,k,s,g,recs,sF,gF,hrest,hch,ht,hpc,hcov,hin,h=>by
  obtain ⟨rfl,ho,hrest'⟩ := zip_drop hrest
  simp only [evDraw] at h
  have hsub := finX_sub (pk := pkOf (evX C s.tmps) o) (nd := needs (evX C s.tmps) o) (fids := (recs.filter fun r=>!((befs ops.toList []).getD j 0).testBit r.i).flatMap (·.ids)) s.mem.bs
  have hfcs := finX_cs (pk := pkOf (evX C s.tmps) o) (nd := needs (evX C s.tmps) o) (fids := (recs.filter fun r=>!((befs ops.toList []).getD j 0).testBit r.i).flatMap (·.ids)) s.mem.bs
  generalize finX (pkOf (evX C s.tmps) o) (needs (evX C s.tmps) o) ((recs.filter fun r=>!((befs ops.toList []).getD j 0).testBit r.i).flatMap (·.ids)) s.mem.bs = fin at h hsub hfcs
  split at h
  ·cases h
  ·rename_i v m1 g1 he
   have go : ∀ (ids : List Nat) (mem' : List SB) (pk : Option (TypeId × Nat × Nat)),Sets ⟨j,o,fin,m1.bs,ids,v,s.mem.nb,m1.nb,pk⟩ s.mem.bs mem' → (∀ p,pk = some p → pkOf (evX C s.tmps) o = some p ∧ ids = [] ∧ m1.bs = fin) →
     ((recs.filter fun r=>!((befs ops.toList []).getD j 0).testBit r.i).all fun r=>Oper.apart ops r.o o && apartL r.ids ids && (apartL r.ids (idsOf fin) || pkOk C.T r ⟨j,o,fin,m1.bs,ids,v,s.mem.nb,m1.nb,pk⟩) && (apartL ids (idsOf r.fin) || pkOk C.T ⟨j,o,fin,m1.bs,ids,v,s.mem.nb,m1.nb,pk⟩ r)) = true →
     evDraw C call ops (befs ops.toList []) rest ⟨putT s.tmps o.dst v,⟨mem',m1.nb⟩,s.pc⟩ (⟨j,o,fin,m1.bs,ids,v,s.mem.nb,m1.nb,pk⟩ :: recs) g1 = some (sF,gF) →
     ∃ RS,Chain C call ops b0.tmps b0.mem.bs b0.pc b0.mem.nb gb RS sF.mem.bs sF.mem.nb gF ∧ sF.tmps = putAll b0.tmps RS ∧ sF.pc = b0.pc ∧ ∀ j,j < ops.size → ∃ r ∈ RS,r.i = j := fun ids mem' pk hsets hpk hap h=>by
    have hfree : ∀ x ∈ recs,Bef ops j x.i ∨ x ∈ recs.filter fun r=>!((befs ops.toList []).getD j 0).testBit r.i := fun x hx=>by
     by_cases hb : Bef ops j x.i
     ·exact .inl hb
     ·exact .inr (List.mem_filter.2 ⟨hx,by unfold Bef at hb; simpa using hb⟩)
    refine evDraw_chain rest (j + 1) ⟨putT s.tmps o.dst v,⟨mem',m1.nb⟩,s.pc⟩ g1 _ sF gF hrest' ?_ ?_ hpc (fun i h1=>?_) (fun r hr=>?_) h
    ·refine ⟨s.mem.bs,g,hch,rfl,ho,fun x hx=>hin x hx,fun x hx=>?_,hsub,hfcs,hsets,fun p hp=>?_,?_⟩
     ·rcases hfree x hx with hb | hb
      ·exact .inl hb
      ·right
       have := List.all_eq_true.1 hap x hb
       simp only [Bool.and_eq_true,Bool.or_eq_true] at this
       exact ⟨this.1.1.1,apartL_ok this.1.1.2,this.1.2.imp apartL_ok id,this.2.imp apartL_ok id⟩
     ·obtain ⟨k1,k2,k3⟩ := hpk p hp
      refine ⟨?_,k2,k3⟩
      rw [ht] at k1
      exact k1
     ·simp only
      rw [ht,hpc] at he
      exact he
    ·simp only [putAll]; rw [ht]
    ·rcases Nat.lt_or_ge i j with h3 | h3
     ·obtain ⟨r,hr,e⟩ := hcov i h3
      exact ⟨r,List.mem_cons_of_mem _ hr,e⟩
     ·exact ⟨_,List.mem_cons_self,by simp only; omega⟩
    ·rcases List.mem_cons.1 hr with rfl | hr
     ·simp only; omega
     ·have := hin r hr; omega
   have hquiet : (((pkOf (evX C s.tmps) o).isSome || sameSBs (m1.bs.drop (m1.bs.length - fin.length)) fin) = true) → m1.bs.drop (m1.bs.length - fin.length) = fin := fun hq=>by
    simp only [Bool.or_eq_true] at hq
    rcases hq with hq | hq
    ·obtain ⟨⟨t,id,off⟩,hpk⟩ := Option.isSome_iff_exists.1 hq
     obtain ⟨bs1,nb1⟩ := m1
     obtain ⟨_,_,e,_⟩ := peek_eq hpk he
     simp only [e,Nat.sub_self,List.drop_zero]
    ·exact sameSBs_ok hq
   by_cases hqq : ((pkOf (evX C s.tmps) o).isSome || sameSBs (m1.bs.drop (m1.bs.length - fin.length)) fin) = true
   ·have hq := hquiet hqq
    simp only [hqq,if_true] at h
    split at h
    ·rename_i hap
     refine go _ _ _ (.inl ⟨m1.bs.take (m1.bs.length - fin.length),?_,rfl,rfl⟩) (fun p hp=>?_) hap h
     ·simp only
      conv=>lhs; rw [← List.take_append_drop (m1.bs.length - fin.length) m1.bs]
      rw [hq]
     ·unfold pkIf at hp
      split at hp
      ·rename_i hem
       have h0 : idsOf (m1.bs.take (m1.bs.length - fin.length)) = [] := by simpa using hem
       refine ⟨hp,h0,?_⟩
       have h1 : m1.bs.take (m1.bs.length - fin.length) = [] := List.map_eq_nil_iff.1 h0
       conv=>lhs; rw [← List.take_append_drop (m1.bs.length - fin.length) m1.bs,h1,hq]
       rfl
      ·cases hp
    ·cases h
   ·simp only [hqq,Bool.false_eq_true,if_false] at h
    split at h
    ·rename_i hap
     exact go _ _ _ (.inr ⟨rfl,rfl⟩) (fun p hp=>by simp [pkIf] at hp) hap h
    ·cases h
def On (listed : Array Bool) (r : Rec) : Bool := listed.getD r.i false
structure Inv (C : Cx) (O : Objs) (E : Nat → Int) (ops : Array Oper) (ts : List SV) (m0 : List SB) (nb0 : Nat) (RS : List Rec) (nbE : Nat) (ρ0 : Map) (w0 : World) (listed : Array Bool) (ρ : Map) (a : Act) (w : World) : Prop where
 shut : Shut ops listed
 size : listed.size = ops.size
 tlen : ts.length ≤ a.tmps.size
 tmp : ∀ t (x : SV),(putAll ts (RS.filter (On listed)))[t]? = some x → x.sat ρ E (a.tmps.getD t undef)
 defers : a.defers = []
 mem : Mf O ρ E (muOf m0 (RS.filter (On listed))) w
 fresh : ∀ r ∈ RS,On listed r = false → Fresh ρ r.lo r.hi
 ext : Ext ρ0 ρ ⟨m0,nb0⟩ ⟨m0,nbE⟩ w0 w
 glob : GlobOk C ρ
theorem pkSame_ok {T : Tys} {t : TypeId} {id off : Nat} {z : SA} {c : SB} (h : pkSame T t id off z c = true) (hc : c.id = id) : (c.obj = none ∧ c.cs = []) ∧ partS T t c.cells off = some z := by
 unfold pkSame at h
 rw [hc,Nat.beq_refl] at h
 simp only [Bool.not_true,Bool.false_or,Bool.and_eq_true,Option.isNone_iff_eq_none] at h
 refine ⟨⟨h.1.1,by have := h.1.2; cases hcs : c.cs; rfl; rw [hcs] at this; cases this⟩,?_⟩
 have h2 := h.2
 split at h2
 ·rename_i y hy
  rw [hy,SA.same_ok h2]
 ·cases h2
theorem peek_mu (hcall : CallOk C O I X E call) (hW : WF ⟨m0,nb0⟩) {listed : Array Bool} {t : TypeId} {id off : Nat} {z : SA} : ∀ {rs : List Rec} {mem : List SB} {nb : Nat} {g : Gl},Chain C call ops ts m0 pc nb0 g0 rs mem nb g →
  (∀ y ∈ rs,On listed y = false → id ∈ y.ids → (∃ c ∈ y.fin,c.id = id) ∧ ∀ c ∈ y.fin,c.id = id → (c.obj = none ∧ c.cs = []) ∧ partS C.T t c.cells off = some z) →
  (∃ b ∈ mem,b.id = id ∧ (b.obj = none ∧ b.cs = []) ∧ partS C.T t b.cells off = some z) → ∃ c,muOf m0 (rs.filter (On listed)) id = some c ∧ c.id = id ∧ (c.obj = none ∧ c.cs = []) ∧ partS C.T t c.cells off = some z
 | [],mem,nb,g,h,_,⟨b,hb,e,k1,k2⟩=>by
  obtain ⟨rfl,rfl,rfl⟩ := h
  refine ⟨b,?_,e,k1,k2⟩
  have := find_uniq hW hb
  rw [e] at this
  exact this
 | y :: rs,mem',nb',g',h,hy,⟨b,hb,e,k1,k2⟩=>by
  have K := chain_kept (O := O) (I := I) (X := X) (E := E) hcall hW h
  have hmu := (K.mu id b).2 ⟨hb,e⟩
  obtain ⟨mem,g,hc,rfl,ho,hlt,hap,hsub,_,hsets,_,he⟩ := h
  have K2 := chain_kept (O := O) (I := I) (X := X) (E := E) hcall hW hc
  have hrest : ∀ x ∈ rs,On listed x = false → id ∈ x.ids → (∃ c ∈ x.fin,c.id = id) ∧ ∀ c ∈ x.fin,c.id = id → (c.obj = none ∧ c.cs = []) ∧ partS C.T t c.cells off = some z := fun x hx=>hy x (List.mem_cons_of_mem _ hx)
  by_cases hid : id ∈ y.ids
  ·have hid' : y.ids.contains id = true := by simpa using hid
   cases hl : On listed y with
   | true =>
    refine ⟨b,?_,e,k1,k2⟩
    rw [List.filter_cons_of_pos (by rw [hl])]
    unfold muOf at hmu ⊢
    rw [List.find?_cons_of_pos (p := fun r : Rec=>r.ids.contains id) hid'] at hmu ⊢
    exact hmu
   | false =>
    obtain ⟨⟨c,hc1,hc2⟩,hall⟩ := hy y (by simp) hl hid
    obtain ⟨c3,c4⟩ := hall c hc1 hc2
    rw [List.filter_cons_of_neg (by rw [hl]; simp)]
    exact peek_mu hcall hW hc hrest ⟨c,hsub.subset hc1,hc2,c3,c4⟩
  ·have hid' : ¬ y.ids.contains id = true := by simpa using hid
   have hm : muOf m0 rs id = some b := by
    unfold muOf at hmu ⊢
    rw [List.find?_cons_of_neg (p := fun r : Rec=>r.ids.contains id) hid'] at hmu
    exact hmu
   obtain ⟨c,q1,q2⟩ := peek_mu hcall hW hc hrest ⟨b,((K2.mu id b).1 hm).1,e,k1,k2⟩
   refine ⟨c,?_,q2⟩
   cases hl : On listed y with
   | true =>
    rw [List.filter_cons_of_pos (by rw [hl])]
    unfold muOf at q1 ⊢
    rw [List.find?_cons_of_neg (p := fun r : Rec=>r.ids.contains id) hid']
    exact q1
   | false =>
    rw [List.filter_cons_of_neg (by rw [hl]; simp)]
    exact q1
theorem seg_step (hcall : CallOk C O I X E call) {RS : List Rec} {mem : List SB} {nbE : Nat} {gE : Gl} (hch : Chain C call ops ts m0 pc nb0 g0 RS mem nbE gE) (HE : Good I X E gE) (hW : WF ⟨m0,nb0⟩) (hpc : truth (pc.val E) = true)
  {ρ0 : Map} {w0 : World} {listed : Array Bool} {ρ : Map} {a : Act} {w : World} (hinv : Inv C O E ops ts m0 nb0 RS nbE ρ0 w0 listed ρ a w) (hF0 : Fresh ρ0 nb0 nbE) {r : Rec} (hr : r ∈ RS) (hready : r.i ∈ Region.ready .any ops listed)
  {K : Act → World → Prop} {Q : Exit → Act → World → Prop} (hK : ∀ ρ' a' w',Inv C O E ops ts m0 nb0 RS nbE ρ0 w0 (listed.setIfInBounds r.i true) ρ' a' w' → K a' w') : wpOp C.P ops Q r.i K a w := by
 obtain ⟨pre,rest,hRS,hpre⟩ := chain_split RS hch hr
 obtain ⟨mem1,g1,H1,hc1⟩ := chain_good hcall hW RS hch HE hRS
 have KE := chain_kept (O := O) (I := I) (X := X) (E := E) hcall hW hch
 obtain ⟨mem2,g2,hc2,_,ho,hlt,hap,hsub,hfcs,hsets,hpk,he⟩ := hc1
 have K2 := chain_kept (O := O) (I := I) (X := X) (E := E) hcall hW hc2
 obtain ⟨hr1,hr2,hr3,hr4,hr5,hr6,hr7⟩ := KE.recs r hr
 obtain ⟨hiun,_⟩ := mem_ready.1 hready
 have hilt : r.i < ops.size := (Array.getElem?_eq_some_iff.1 ho).1
 have hion : On listed r = false := by
  have hl : r.i < listed.size := by rw [hinv.size]; exact hilt
  unfold On
  simp only [Array.getD,hl,dif_pos] at hiun ⊢
  exact hiun
 have hbefL : ∀ i,Bef ops r.i i → listed.getD i false = true := fun i hb=>bef_ready hinv.shut hready hb
 have hnob : ∀ y ∈ pre,On listed y = true → Meet C.T ops r y := fun y hy hl=>by
  rcases (hpre y hy).2 with hb | hb
  ·have := bef_listed hinv.shut y.i hl hb
   unfold On at hion
   rw [this] at hion; cases hion
  ·exact hb
 have hsel : RS.filter (On listed) = pre.filter (On listed) ++ rest.filter (On listed) := by
  rw [hRS,List.filter_append,List.filter_cons_of_neg (by rw [hion]; simp)]
 have hT : TmpOk ρ E ops (putAll ts rest) r.o a := fun t ht x hx=>by
  refine hinv.tmp t x ?_
  rw [putAll_get] at hx ⊢
  rw [hsel,find_none (fun y hy=>?_),find_filter (fun z hz hd=>?_)]
  ·exact hx
  ·have hd : z.o.dst = some t := by simpa using hd
   rcases hap z hz with hb | hb
   ·exact hbefL _ hb
   ·exact absurd ht ((Oper.apart_spec hb.1).1 t hd)
  ·obtain ⟨hy1,hy2⟩ := List.mem_filter.1 hy
   have := (Oper.apart_spec (hnob y hy1 hy2).1).2.2
   simp only [decide_eq_false_iff_not]
   exact fun hd=>this t hd ht
 have hnopk : ∀ x : Rec,r.pk = none → ¬ pkOk C.T x r = true := fun x hn h=>by
  unfold pkOk at h
  rw [hn] at h
  cases h
 have hfin0 : r.pk = none → ∀ b ∈ r.fin,muOf m0 (RS.filter (On listed)) b.id = some b := fun hn b hb=>by
  have hcan := (K2.mu b.id b).2 ⟨hsub.subset hb,rfl⟩
  unfold muOf at hcan ⊢
  rw [hsel,find_none (fun y hy=>?_),find_filter (fun z hz hd=>?_)]
  ·exact hcan
  ·have hd : b.id ∈ z.ids := by simpa using hd
   rcases hap z hz with hm | hm
   ·exact hbefL _ hm
   ·rcases hm.2.2.1 with h0 | h0
    ·exact absurd (mem_idsOf.2 ⟨b,hb,rfl⟩) (h0 b.id hd)
    ·exact absurd h0 (hnopk z hn)
  ·obtain ⟨hy1,hy2⟩ := List.mem_filter.1 hy
   have := (hnob y hy1 hy2).2.2.2
   cases hc : y.ids.contains b.id with
   | false=>rfl
   | true =>
    rcases this with h0 | h0
    ·exact absurd (mem_idsOf.2 ⟨b,hb,rfl⟩) (h0 b.id (by simpa using hc))
    ·exact absurd h0 (hnopk y hn)
 have hWf0 : WF ⟨r.fin,r.lo⟩ := wf_ids K2.wf (hsub.map _) (Nat.le_refl _)
 have hni : ∀ i ∈ r.ids,∀ y ∈ pre.filter (On listed),y.ids.contains i = false := fun i hi y hy=>by
  obtain ⟨hy1,hy2⟩ := List.mem_filter.1 hy
  have := (hnob y hy1 hy2).2.1 i hi
  simpa using this
 have hnow : ∃ fin' fout' : List SB,(∀ b ∈ fin',muOf m0 (RS.filter (On listed)) b.id = some b) ∧ (∀ b ∈ fin',b.cs = []) ∧ WF ⟨fin',r.lo⟩ ∧ evOper C call ops (putAll ts rest) ⟨fin',r.lo⟩ pc g2 r.o = some (r.v,⟨fout',r.hi⟩,g1) ∧
   (∀ b ∈ fout',(∃ b0 ∈ fin',b0.id = b.id) ∨ (r.lo ≤ b.id ∧ b.id < r.hi)) ∧ (∀ b ∈ fin',∃ b0 ∈ r.fin,b0.id = b.id) ∧
   (∀ i b,muOf m0 (pre.filter (On listed) ++ r :: rest.filter (On listed)) i = some b → (b ∈ fout' ∧ b.id = i) ∨ (muOf m0 (RS.filter (On listed)) i = some b ∧ ∀ c ∈ fin',c.id ≠ i)) := by
  have hmid : ∀ i,i ∉ r.ids → ∀ b,muOf m0 (pre.filter (On listed) ++ r :: rest.filter (On listed)) i = some b → muOf m0 (RS.filter (On listed)) i = some b := fun i hi b hmu=>by
   unfold muOf at hmu ⊢
   have e0 : (r :: rest.filter (On listed)).find? (fun r=>r.ids.contains i) = (rest.filter (On listed)).find? (fun r=>r.ids.contains i) := List.find?_cons_of_neg (p := fun r : Rec=>r.ids.contains i) (by simpa using hi)
   rw [List.find?_append,e0,← List.find?_append,← hsel] at hmu
   exact hmu
  cases hpkr : r.pk with
  | none =>
   have hfin := hfin0 hpkr
   refine ⟨r.fin,r.fout,hfin,hfcs,hWf0,he,hr6,fun b hb=>⟨b,hb,rfl⟩,fun i b hmu=>?_⟩
   by_cases hi : i ∈ r.ids
   ·have e0 : (r :: rest.filter (On listed)).find? (fun r=>r.ids.contains i) = some r := List.find?_cons_of_pos (p := fun r : Rec=>r.ids.contains i) (by simpa using hi)
    unfold muOf at hmu
    rw [find_none (hni i hi),e0] at hmu
    simp only at hmu
    exact .inl ⟨List.mem_of_find?_eq_some hmu,by simpa using List.find?_some hmu⟩
   ·have hold := hmid i hi b hmu
    by_cases hfi : ∃ c ∈ r.fin,c.id = i
    ·obtain ⟨c,hc,e⟩ := hfi
     have := hfin c hc
     rw [e,hold] at this
     obtain rfl : b = c := by injection this
     left
     refine ⟨?_,e⟩
     rcases hsets with ⟨nw,e1,e2,_⟩ | ⟨e1,_⟩
     ·rw [e1]; exact List.mem_append_right _ hc
     ·exact absurd (by rw [e1]; exact List.mem_append_left _ (mem_idsOf.2 ⟨b,hc,e⟩)) hi
    ·exact .inr ⟨hold,fun c hc e=>hfi ⟨c,hc,e⟩⟩
  | some p =>
   obtain ⟨t,id,off⟩ := p
   obtain ⟨p1,p2,p3⟩ := hpk _ hpkr
   obtain ⟨e1,e2,_,z,b,hv,b1,b2,b3,b4,hany⟩ := peek_eq p1 he
   have hpkz : ∀ x : Rec,pkOk C.T x r = true → (∃ c ∈ x.fin,c.id = id) ∧ (∃ c ∈ x.fout,c.id = id) ∧ (∀ c ∈ x.fin,c.id = id → (c.obj = none ∧ c.cs = []) ∧ partS C.T t c.cells off = some z) ∧ ∀ c ∈ x.fout,c.id = id → (c.obj = none ∧ c.cs = []) ∧ partS C.T t c.cells off = some z := fun x hx=>by
    unfold pkOk at hx
    rw [hpkr,hv] at hx
    simp only [Bool.and_eq_true,List.any_eq_true,List.all_eq_true] at hx
    obtain ⟨⟨⟨⟨c1,c2,c3⟩,⟨d1,d2,d3⟩⟩,h3⟩,h4⟩ := hx
    exact ⟨⟨c1,c2,Nat.eq_of_beq_eq_true c3⟩,⟨d1,d2,Nat.eq_of_beq_eq_true d3⟩,fun c hc e=>pkSame_ok (h3 c hc) e,fun c hc e=>pkSame_ok (h4 c hc) e⟩
   have hidf : id ∈ idsOf r.fin := mem_idsOf.2 ⟨b,b1,b2⟩
   obtain ⟨c,q1,q2,q3,q4⟩ := peek_mu (O := O) (I := I) (X := X) (E := E) (listed := listed) (t := t) (id := id) (off := off) (z := z) hcall hW hc2 (fun y hy hl hi=>by
    rcases hap y hy with hm | hm
    ·have := hbefL _ hm
     unfold On at hl
     rw [this] at hl; cases hl
    ·rcases hm.2.2.1 with h0 | h0
     ·exact absurd hidf (h0 id hi)
     ·obtain ⟨k1,_,k3,_⟩ := hpkz y h0
      exact ⟨k1,k3⟩) ⟨b,hsub.subset b1,b2,b3,b4⟩
   have hcur : ∃ c,muOf m0 (RS.filter (On listed)) id = some c ∧ c.id = id ∧ (c.obj = none ∧ c.cs = []) ∧ partS C.T t c.cells off = some z := by
    cases hf : (pre.filter (On listed)).find? (fun r=>r.ids.contains id) with
    | none =>
     refine ⟨c,?_,q2,q3,q4⟩
     rw [hsel]
     unfold muOf at q1 ⊢
     rw [List.find?_append,hf]
     exact q1
    | some y =>
     have hy := List.mem_of_find?_eq_some hf
     have hyi : id ∈ y.ids := by simpa using List.find?_some hf
     obtain ⟨hy1,hy2⟩ := List.mem_filter.1 hy
     rcases (hnob y hy1 hy2).2.2.2 with h0 | h0
     ·exact absurd hidf (h0 id hyi)
     ·obtain ⟨_,⟨d,d1,d2⟩,_,k4⟩ := hpkz y h0
      cases hd : y.fout.find? (·.id == id) with
      | none=>exact absurd (List.find?_eq_none.1 hd d d1) (by simp [d2])
      | some c' =>
       have hc' : c'.id = id := by simpa using List.find?_some hd
       obtain ⟨k5,k6⟩ := k4 c' (List.mem_of_find?_eq_some hd) hc'
       refine ⟨c',?_,hc',k5,k6⟩
       rw [hsel]
       unfold muOf
       rw [List.find?_append,hf]
       exact hd
   obtain ⟨c,q1,q2,q3,q4⟩ := hcur
   have hev := hany c q2 q3 q4
   rw [e1,e2]
   refine ⟨[c],[c],fun x hx=>?_,fun x hx=>by rw [List.mem_singleton] at hx; subst hx; exact q3.2,⟨List.pairwise_singleton _ _,fun x hx=>?_⟩,hev,fun x hx=>.inl ⟨x,hx,rfl⟩,fun x hx=>?_,fun i x hmu=>?_⟩
   ·rw [List.mem_singleton] at hx; subst hx; rw [q2]; exact q1
   ·rw [List.mem_singleton] at hx; subst hx
    have := hWf0.2 b b1
    simp only at this ⊢
    omega
   ·rw [List.mem_singleton] at hx; subst hx; exact ⟨b,b1,b2.trans q2.symm⟩
   ·have hold := hmid i (by rw [p2]; simp) x hmu
    by_cases hi : i = id
    ·subst hi
     rw [q1] at hold
     obtain rfl : c = x := by injection hold
     exact .inl ⟨by simp,q2⟩
    ·exact .inr ⟨hold,fun y hy e=>by rw [List.mem_singleton] at hy; subst hy; exact hi (e.symm.trans q2)⟩
 obtain ⟨fin',fout',hfin,hfcs',hWf,he,hr6,hfid,hmuN⟩ := hnow
 obtain ⟨q1,q2⟩ := evOper_ok (O := O) (I := I) (X := X) (E := E) hcall he
 have hfr := hinv.fresh r hr hion
 have key := q2 H1 ρ a w hT (fun t _ ht=>by rw [putAll_len] at ht; exact Nat.lt_of_lt_of_le ht hinv.tlen) hinv.glob (hinv.mem.list hfin) hWf hpc hfr K Q (fun ρ' u w' k1 k2 k3=>by
  refine hK ρ' _ w' ?_
  have hon' : ∀ y : Rec,On (listed.setIfInBounds r.i true) y = (On listed y || decide (y.i = r.i)) := fun y=>by
   unfold On
   by_cases hyi : y.i = r.i
   ·have hl : r.i < listed.size := by rw [hinv.size]; exact hilt
    simp [hyi,hl]
   ·rw [getD_set_ne false (fun e=>hyi e.symm)]
    simp [hyi]
  have hpreI : pre.filter (On (listed.setIfInBounds r.i true)) = pre.filter (On listed) := List.filter_congr fun y hy=>by
   rw [hon']
   have := (hpre y hy).1
   simp only [show decide (y.i = r.i) = false by simp; omega,Bool.or_false]
  have hrestI : rest.filter (On (listed.setIfInBounds r.i true)) = rest.filter (On listed) := List.filter_congr fun y hy=>by
   rw [hon']
   have := hlt y hy
   simp only [show decide (y.i = r.i) = false by simp; omega,Bool.or_false]
  have hsel' : RS.filter (On (listed.setIfInBounds r.i true)) = pre.filter (On listed) ++ r :: rest.filter (On listed) := by
   rw [hRS,List.filter_append,hpreI,List.filter_cons_of_pos (by rw [hon']; simp),hrestI]
  have hnd : ∀ t,r.o.dst = some t → ∀ y ∈ pre.filter (On listed),decide (y.o.dst = some t) = false := fun t ht y hy=>by
   obtain ⟨hy1,hy2⟩ := List.mem_filter.1 hy
   simp only [decide_eq_false_iff_not]
   exact (Oper.apart_spec (hnob y hy1 hy2).1).2.1 t ht
  refine ⟨shut_set hinv.shut hready,by simp [hinv.size],by rw [put_size]; exact hinv.tlen,fun t x hx=>?_,by rw [put_defers]; exact hinv.defers,?_,fun y hy hyl=>?_,?_,hinv.glob.mono k3.le⟩
  ·
   rw [hsel',putAll_get] at hx
   by_cases hd : r.o.dst = some t
   ·rw [find_none (hnd t hd),List.find?_cons_of_pos (by simpa using hd)] at hx
    obtain ⟨hlt',rfl⟩ := hx
    have hsz : t < a.tmps.size := Nat.lt_of_lt_of_le hlt' hinv.tlen
    rw [hd]
    simp only [Act.put]
    simpa [hsz] using k1
   ·have hold : (putAll ts (RS.filter (On listed)))[t]? = some x := by
     rw [hsel,putAll_get]
     rw [List.find?_append,List.find?_cons_of_neg (by simpa using hd),← List.find?_append] at hx
     exact hx
    have := SV.mono k3.le x (hinv.tmp t x hold)
    cases hdd : r.o.dst with
    | none=>exact this
    | some d =>
     have hne : d ≠ t := fun e=>hd (by rw [hdd,e])
     simp only [Act.put]
     rw [Array.getD_eq_getD_getElem?] at this ⊢
     rw [Array.getElem?_setIfInBounds_ne hne]
     exact this
  ·
   refine hinv.mem.step hfin hfcs' k2 k3 (fun b hb=>?_) hfr fun i b hb=>?_
   ·rcases hr6 b hb with h | h
    ·exact .inl h
    ·exact .inr (hfr b.id h.1 h.2)
   ·rw [hsel'] at hb
    exact hmuN i b hb
  ·
   rw [hon'] at hyl
   simp only [Bool.or_eq_false_iff,decide_eq_false_iff_not] at hyl
   have hf := hinv.fresh y hy hyl.1
   have hdis : y.hi ≤ r.lo ∨ r.hi ≤ y.lo := by
    rw [hRS] at hy
    rcases List.mem_append.1 hy with hy | hy
    ·right
     obtain ⟨p1,p2,hp⟩ := List.append_of_mem hy
     have hRS2 : RS = p1 ++ y :: (p2 ++ r :: rest) := by rw [hRS,hp]; simp
     obtain ⟨_,g3,_,hc3⟩ := chain_good hcall hW RS hch HE hRS2
     obtain ⟨_,_,hc4,_⟩ := hc3
     exact ((chain_kept (O := O) (I := I) (X := X) (E := E) hcall hW hc4).recs r (by simp)).2.2.1
    ·rcases List.mem_cons.1 hy with e | hy
     ·rw [e] at hyl; exact absurd rfl hyl.2
     ·left; exact (K2.recs y hy).2.2.1
   exact fun i hi hj=>by
    rcases k3.chg i with (h | ⟨_,b,hb,e⟩) | h
    ·simp only at h; omega
    ·obtain ⟨L,_,hL,_⟩ := hinv.mem.blk _ _ (hfin b hb) (allC_nil (hfcs' b hb))
     rw [e,hf i hi hj] at hL; cases hL
    ·rw [h]; exact hf i hi hj
  ·have h5 : ∀ b ∈ fin',(∃ b0 ∈ m0,b0.id = b.id) ∨ (nb0 ≤ b.id ∧ b.id < r.lo) := fun b hb=>by
    obtain ⟨b0,hb0,e⟩ := hfid b hb
    rw [← e]
    exact (hr5 b0 hb0).imp id fun h=>⟨h.1,hr4 b0 hb0⟩
   refine ext_comp hinv.ext k3 (fun b hb=>?_) hr1 hr3 hr2 (fun b hb=>h5 b hb)
   rcases h5 b hb with h | h
   ·exact .inl h
   ·exact .inr (hF0 b.id h.1 (by have := h.2; omega)))
 unfold wpOp
 simp only [ho]
 split
 ·rename_i hw
  rw [if_pos hw] at key
  exact .inl key
 ·rename_i hw
  rw [if_neg hw] at key
  exact key
theorem chain_ok (hcall : CallOk C O I X E call) (hback : backE ops = true) {s0 sF : Lo} {gF : Gl} {RS : List Rec} (hch : Chain C call ops s0.tmps s0.mem.bs s0.pc s0.mem.nb g0 RS sF.mem.bs sF.mem.nb gF) (hts : sF.tmps = putAll s0.tmps RS) (hpc : sF.pc = s0.pc)
  (hcov : ∀ j,j < ops.size → ∃ r ∈ RS,r.i = j) (hW : WF s0.mem) (HE : Good I X E gF) {a : Act} (hR : R O ρ E s0 a w) (hG : GlobOk C ρ) (hF : Fresh ρ s0.mem.nb sF.mem.nb)
  {listed : Array Bool} (hs : Shut ops listed) (hz : listed.size = ops.size) (hun : ∀ j,listed.getD j false = false)
  {Q : Exit → Act → World → Prop} (hQ : ∀ ρ' a' w',R O ρ' E sF a' w' → Ext ρ ρ' s0.mem sF.mem w w' → Q .normal a' w') (fuel : Nat) (hfuel : left_ ops listed ≤ fuel) : wpAny C.P .any ops Q fuel listed a w := by
 have KE := chain_kept (O := O) (I := I) (X := X) (E := E) hcall hW hch
 have hempty : RS.filter (On listed) = [] := List.filter_eq_nil_iff.2 fun r hr=>by unfold On; rw [hun r.i]; simp
 have hinv0 : Inv C O E ops s0.tmps s0.mem.bs s0.mem.nb RS sF.mem.nb ρ w listed ρ a w := by
  refine ⟨hs,hz,hR.size,fun t x hx=>?_,hR.defers,?_,fun r hr _=>hF.sub (KE.recs r hr).1 (KE.recs r hr).2.2.1,⟨Lk.rfl',Nat.le_refl _,fun _ _ _=>rfl,fun _=>.inr rfl,fun _ _ _ h=>absurd rfl h,Go.RowKit.Below.refl 0 w⟩,hG⟩
  ·rw [hempty] at hx; exact hR.tmp t x hx
  ·rw [hempty]; exact hR.mem.mf
 have done : ∀ (listed : Array Bool) ρ' a' w',Inv C O E ops s0.tmps s0.mem.bs s0.mem.nb RS sF.mem.nb ρ w listed ρ' a' w' → (∀ j,j < ops.size → listed.getD j false = true) → Q .normal a' w' := fun listed ρ' a' w' hi hd=>by
  have hsel : RS.filter (On listed) = RS := List.filter_eq_self.2 fun r hr=>by
   obtain ⟨pre,rest,hRS,_⟩ := chain_split RS hch hr
   obtain ⟨_,_,_,hc1⟩ := chain_good hcall hW RS hch HE hRS
   obtain ⟨_,_,_,_,ho,_⟩ := hc1
   exact hd r.i (Array.getElem?_eq_some_iff.1 ho).1
  have hmem := hi.mem
  rw [hsel] at hmem
  refine hQ ρ' a' w' ⟨by rw [hts,putAll_len]; exact hi.tlen,fun t x hx=>hi.tmp t x (by rw [hsel,← hts]; exact hx),hi.defers,hmem.list fun b hb=>(KE.mu b.id b).2 ⟨hb,rfl⟩,by rw [hpc]; exact hR.pc⟩ (hi.ext.nbs rfl)
 have main : ∀ fuel (listed : Array Bool) ρ' a' w',Inv C O E ops s0.tmps s0.mem.bs s0.mem.nb RS sF.mem.nb ρ w listed ρ' a' w' → left_ ops listed ≤ fuel → wpAny C.P .any ops Q fuel listed a' w' := by
  intro fuel
  induction fuel with
  | zero =>
   intro listed ρ' a' w' hi hl
   have hnil : ∀ j,j < ops.size → listed.getD j false = true := fun j hj=>by
    cases hlj : listed.getD j false with
    | true=>rfl
    | false =>
     have : j ∈ (List.range ops.size).filter fun j=>!listed.getD j false := List.mem_filter.2 ⟨List.mem_range.2 hj,by rw [hlj]; rfl⟩
     have := List.length_pos_of_mem this
     unfold left_ at hl
     omega
   refine ⟨?_,done listed ρ' a' w' hi hnil⟩
   cases hr : Region.ready .any ops listed with
   | nil=>rfl
   | cons i l =>
    exfalso
    have hm : i ∈ Region.ready .any ops listed := by rw [hr]; simp
    obtain ⟨h1,h2⟩ := ready_lt hm hi.size
    rw [hnil i h1] at h2; cases h2
  | succ fuel ih =>
   intro listed ρ' a' w' hi hl
   refine ⟨fun hnil=>done listed ρ' a' w' hi (all_listed hback hi.size hnil),fun i hm=>?_⟩
   obtain ⟨h1,h2⟩ := ready_lt hm hi.size
   obtain ⟨r,hr,e⟩ := hcov i h1
   subst e
   refine seg_step hcall hch HE hW hR.pc hi hF hr hm fun ρ2 a2 w2 hi2=>ih _ ρ2 a2 w2 hi2 ?_
   have := left_set (listed := listed) h1 hi.size h2
   omega
 exact main fuel listed ρ a w hinv0 hfuel
theorem evRegion_ok (hcall : CallOk C O I X E call) (hmix : C.P.follows .mixedOrders = true) {draw : Bool} {s s' : Lo} (h : evRegion C call ops draw s g = some (s',g')) (hW : WF s.mem) :
  St I X E g g' s.mem s'.mem ∧ (Good I X E g' → ∀ (id : Nat) ρ a w,R O ρ E s a w → GlobOk C ρ → Fresh ρ s.mem.nb s'.mem.nb →
   ∀ Q : Exit → Act → World → Prop,(∀ ρ' a' w',R O ρ' E s' a' w' → Ext ρ ρ' s.mem s'.mem w w' → Q .normal a' w') → (Code.region id ops draw).wp C.P Q a w) := by
 unfold evRegion at h
 cases draw with
 | false =>
  simp only [Bool.false_eq_true,if_false] at h
  obtain ⟨q1,q2⟩ := evOpers_ok (O := O) (I := I) (X := X) (E := E) hcall ops.toList 0 s s' g g' (by simp) h
  refine ⟨q1 hW,fun H id ρ a w hR hG hf Q hQ=>wp_region ?_⟩
  have := q2 H ρ a w hR hG hW hf Q hQ
  rw [← List.range_eq_range'] at this
  simpa using this
 | true =>
  simp only [if_true] at h
  split at h
  ·rename_i hc
   obtain ⟨RS,hch,hts,hpc,hcov⟩ := evDraw_chain (C := C) (call := call) (b0 := s) (gb := g) ops.toList.zipIdx 0 s g [] s' g' (by simp) ⟨rfl,rfl,rfl⟩ rfl rfl (fun j h=>by omega) (fun r hr=>by cases hr) h
   have K := chain_kept (O := O) (I := I) (X := X) (E := E) hcall hW hch
   refine ⟨⟨K.good,K.le,K.ids,fun _=>K.wf⟩,fun H id ρ a w hR hG hf Q hQ=>wp_region_any hmix ?_⟩
   have hR' : R O ρ E s a { w with drawn := w.drawn + 1 } := ⟨hR.size,hR.tmp,hR.defers,⟨fun b hb hcb=>(hR.mem.blk b hb hcb).keep (Nat.le_refl _) fun _ _ _ _=>rfl,hR.mem.disj,hR.mem.low⟩,hR.pc⟩
   refine chain_ok hcall hc hch hts hpc hcov hW H hR' hG hf (fun j oj hj hl=>?_) (by simp) (fun j=>?_) (fun ρ' a' w' r1 r2=>hQ ρ' a' w' r1 ⟨r2.le,r2.size,r2.keep,r2.chg,r2.new,⟨r2.io.os,r2.io.tape,r2.io.output,r2.io.size,r2.io.block⟩⟩) _ ?_
   ·exfalso
    have hj' : j < ops.size := (Array.getElem?_eq_some_iff.1 hj).1
    simp [hj'] at hl
   ·by_cases hj : j < ops.size
    ·simp [hj]
    ·simp [Array.getD,hj]
   ·unfold left_
    refine Nat.le_trans (List.length_filter_le _ _) ?_
    simp
  ·cases h
end
structure Sm (m m' : Mem) : Prop where
 nb : m.nb ≤ m'.nb
 ids : ∀ b ∈ m'.bs,(∃ b0 ∈ m.bs,b0.id = b.id) ∨ (m.nb ≤ b.id ∧ b.id < m'.nb)
 wf : WF m → WF m'
def Way (E : Nat → Int) (o : Outs) (k : Kd) (s : Lo) : Prop :=
 ∃ pre r post,o = pre ++ (k,r,s) :: post ∧ truth (r.val E) = true ∧ ∀ x ∈ pre ++ post,truth (x.2.1.val E) = false
def kinds (o : Outs) : List Kd := o.map (·.1)
structure Os (m : Mem) (o : Outs) : Prop where
 nodup : (kinds o).Nodup
 ne : o ≠ []
 sm : ∀ x ∈ o,Sm m x.2.2.mem
section
variable {O : Objs} {I : Nat → Int} {X : Nat → List Int → Int} {ρ ρ' : Map} {E : Nat → Int} {w w' : World} {m m' m1 m2 : Mem} {g g' : Gl} {C : Cx} [TyOk C.P C.T]
theorem St.sm (h : St I X E g g' m m') : Sm m m' := ⟨h.nb,h.ids,h.wf⟩
theorem Sm.st (h : Sm m m') (hg : Good I X E g' → Good I X E g) : St I X E g g' m m' := ⟨hg,h.nb,h.ids,h.wf⟩
theorem Sm.rfl' : Sm m m := ⟨Nat.le_refl _,fun b hb=>.inl ⟨b,hb,rfl⟩,id⟩
theorem Sm.trans (h : Sm m m1) (h' : Sm m1 m2) : Sm m m2 :=
 ((h.st (g := ⟨[],0,[]⟩) (g' := ⟨[],0,[]⟩) (I := fun _=>0) (X := fun _ _=>0) (E := fun _=>0) fun H=>H).trans (h'.st fun H=>H)).sm
theorem Ext.up (h : Ext ρ ρ' m m1 w w') (hn : m1.nb ≤ m2.nb) : Ext ρ ρ' m m2 w w' :=
 ⟨h.le,h.size,h.keep,fun i=>by
  rcases h.chg i with (h | h) | h
  ·exact .inl (.inl (by omega))
  ·exact .inl (.inr h)
  ·exact .inr h,h.new,h.io⟩
theorem takeK_some {k : Kd} : ∀ {l rest : Outs} {r : Ref} {s : Lo},takeK k l = (some (r,s),rest) → ∃ pre post,l = pre ++ (k,r,s) :: post ∧ rest = pre ++ post
 | [],rest,r,s,h=>by simp [takeK] at h
 | (k',r',s') :: l,rest,r,s,h=>by
  simp only [takeK] at h
  split at h
  ·rename_i hk
   simp only [Prod.mk.injEq,Option.some.injEq] at h
   obtain ⟨⟨rfl,rfl⟩,rfl⟩ := h
   exact ⟨[],l,by rw [hk]; rfl,rfl⟩
  ·rcases h1 : takeK k l with ⟨x,l1⟩
   rw [h1] at h
   simp only [Prod.mk.injEq] at h
   obtain ⟨rfl,rfl⟩ := h
   obtain ⟨pre,post,rfl,rfl⟩ := takeK_some h1
   exact ⟨(k',r',s') :: pre,post,rfl,rfl⟩
theorem takeK_none {k : Kd} : ∀ {l rest : Outs},takeK k l = (none,rest) → rest = l ∧ ∀ x ∈ l,x.1 ≠ k
 | [],rest,h=>by
  simp only [takeK,Prod.mk.injEq,true_and] at h
  exact ⟨h.symm,fun x hx=>by cases hx⟩
 | (k',r',s') :: l,rest,h=>by
  simp only [takeK] at h
  split at h
  ·simp at h
  ·rename_i hk
   rcases h1 : takeK k l with ⟨x,l1⟩
   rw [h1] at h
   simp only [Prod.mk.injEq] at h
   obtain ⟨rfl,rfl⟩ := h
   obtain ⟨rfl,h2⟩ := takeK_none h1
   exact ⟨rfl,fun x hx=>by
    rcases List.mem_cons.1 hx with rfl | hx
    ·exact hk
    ·exact h2 x hx⟩
theorem Way.mem {o : Outs} {k : Kd} {s : Lo} (h : Way E o k s) : ∃ r,(k,r,s) ∈ o ∧ truth (r.val E) = true := by
 obtain ⟨pre,r,post,rfl,hr,_⟩ := h
 exact ⟨r,by simp,hr⟩
theorem Way.split {o rest : Outs} {k k' : Kd} {s s1 : Lo} {r : Ref} (h : Way E o k' s) (ht : takeK k o = (some (r,s1),rest)) (hn : (kinds o).Nodup) :
  (k' = k ∧ s = s1 ∧ truth (r.val E) = true ∧ ∀ x ∈ rest,truth (x.2.1.val E) = false) ∨ (k' ≠ k ∧ truth (r.val E) = false ∧ Way E rest k' s) := by
 obtain ⟨p1,q1,e1,rfl⟩ := takeK_some ht
 obtain ⟨pre,r',post,e2,hr',hoth⟩ := h
 have hm : (k,r,s1) ∈ pre ++ (k',r',s) :: post := by rw [← e2,e1]; simp
 have uniq : ∀ {x y : Kd × Ref × Lo},x ∈ o → y ∈ o → x.1 = y.1 → x = y := fun {x y} hx hy hxy=>by
  unfold kinds at hn
  generalize o = l at hn hx hy
  induction l with
  | nil=>cases hx
  | cons z l ih =>
   simp only [List.map_cons,List.nodup_cons] at hn
   rcases List.mem_cons.1 hx with hx1 | hx1 <;> rcases List.mem_cons.1 hy with hy1 | hy1
   ·rw [hx1,hy1]
   ·exact absurd (List.mem_map.2 ⟨y,hy1,by rw [← hxy,hx1]⟩) hn.1
   ·exact absurd (List.mem_map.2 ⟨x,hx1,by rw [hxy,hy1]⟩) hn.1
   ·exact ih hn.2 hx1 hy1
 by_cases hk : k' = k
 ·left
  have he := uniq (x := (k',r',s)) (y := (k,r,s1)) (by rw [e2]; simp) (by rw [e1]; simp) hk
  simp only [Prod.mk.injEq] at he
  obtain ⟨_,rfl,rfl⟩ := he
  refine ⟨hk,rfl,hr',fun x hx=>?_⟩
  have hx' : x ∈ pre ++ post := by
   have hx1 : x ∈ o := by rw [e1]; rcases List.mem_append.1 hx with h | h <;> simp [h]
   rw [e2] at hx1
   rcases List.mem_append.1 hx1 with h | h
   ·exact List.mem_append_left _ h
   ·rcases List.mem_cons.1 h with h | h
    ·exfalso
     have hnd : (kinds (p1 ++ (k,r',s) :: q1)).Nodup := by rw [← e1]; exact hn
     unfold kinds at hnd
     rw [List.map_append,List.map_cons] at hnd
     have hk2 : x.1 = k := by rw [h]; exact hk
     rcases List.mem_append.1 hx with h3 | h3
     ·have := (List.nodup_append.1 hnd).2.2 x.1 (List.mem_map.2 ⟨x,h3,rfl⟩) k (by simp)
      exact this hk2
     ·have := (List.nodup_cons.1 (List.nodup_append.1 hnd).2.1).1
      exact this (List.mem_map.2 ⟨x,h3,hk2⟩)
    ·exact List.mem_append_right _ h
  exact hoth x hx'
 ·right
  have hrf : truth (r.val E) = false := by
   rcases List.mem_append.1 hm with h | h
   ·exact hoth _ (List.mem_append_left _ h)
   ·rcases List.mem_cons.1 h with h | h
    ·simp only [Prod.mk.injEq] at h; exact absurd h.1.symm hk
    ·exact hoth _ (List.mem_append_right _ h)
  refine ⟨hk,hrf,?_⟩
  rcases List.append_eq_append_iff.1 (e1.symm.trans e2) with ⟨asq,ha1,ha2⟩ | ⟨asq,ha1,ha2⟩
  ·
   cases asq with
   | nil =>
    simp only [List.nil_append,List.cons.injEq,Prod.mk.injEq] at ha2
    exact absurd ha2.1.1.symm hk
   | cons y asq =>
    simp only [List.cons_append,List.cons.injEq] at ha2
    obtain ⟨rfl,rfl⟩ := ha2
    refine ⟨p1 ++ asq,r',post,by simp,hr',fun x hx=>hoth x ?_⟩
    rw [ha1]
    simp only [List.mem_append,List.mem_cons] at hx ⊢
    rcases hx with (h | h) | h
    ·exact .inl (.inl h)
    ·exact .inl (.inr (.inr h))
    ·exact .inr h
  ·cases asq with
   | nil =>
    simp only [List.nil_append,List.cons.injEq,Prod.mk.injEq] at ha2
    exact absurd ha2.1.1 hk
   | cons y asq =>
    simp only [List.cons_append,List.cons.injEq] at ha2
    obtain ⟨rfl,rfl⟩ := ha2
    refine ⟨pre,r',asq ++ q1,by rw [ha1]; simp,hr',fun x hx=>hoth x ?_⟩
    simp only [List.mem_append,List.mem_cons] at hx ⊢
    rcases hx with h | h | h
    ·exact .inl h
    ·exact .inr (.inl h)
    ·exact .inr (.inr (.inr h))
theorem Way.none {o : Outs} {k k' : Kd} {s : Lo} {rest : Outs} (h : Way E o k' s) (ht : takeK k o = (none,rest)) : k' ≠ k := by
 obtain ⟨r,hm,_⟩ := h.mem
 exact (takeK_none ht).2 _ hm
structure For (E : Nat → Int) (s z : Lo) : Prop where
 r : ∀ O ρ a w,R O ρ E s a w → R O ρ E z a w
 nb : s.mem.nb ≤ z.mem.nb
theorem For.rfl' {s : Lo} : For E s s := ⟨fun _ _ _ _ h=>h,Nat.le_refl _⟩
theorem joinMem_sm {c : Ref} {m n z p : Mem} {g g' : Gl} (h : joinMem c m n g = (z,g')) (hm : Sm p m) (hn : Sm p n) : Sm p z ∧ m.nb ≤ z.nb ∧ n.nb ≤ z.nb := by
 obtain ⟨k1,k2,k3⟩ := joinMem_ids h
 refine ⟨⟨by rw [k2]; exact Nat.le_trans hm.nb (Nat.le_max_left _ _),fun b hb=>?_,fun hW=>k3 (hm.wf hW) (hn.wf hW)⟩,by rw [k2]; exact Nat.le_max_left _ _,by rw [k2]; exact Nat.le_max_right _ _⟩
 rcases k1 b hb with ⟨b0,hb0,e⟩ | ⟨b0,hb0,e⟩
 ·rcases hm.ids b0 hb0 with ⟨b1,hb1,e1⟩ | ⟨h3,h4⟩
  ·exact .inl ⟨b1,hb1,e1.trans e⟩
  ·exact .inr (by rw [k2]; omega)
 ·rcases hn.ids b0 hb0 with ⟨b1,hb1,e1⟩ | ⟨h3,h4⟩
  ·exact .inl ⟨b1,hb1,e1.trans e⟩
  ·exact .inr (by rw [k2]; omega)
theorem Sm.gc {p m : Mem} {ts : List SV} (h : Sm p m) : Sm p (gcMem ts m) := by
 obtain ⟨g1,g2⟩ := gcMem_sub (ts := ts) (m := m)
 refine ⟨by rw [g2]; exact h.nb,fun b hb=>?_,fun hW=>wf_ids (h.wf hW) (g1.map _) (by rw [g2]; exact Nat.le_refl _)⟩
 rw [g2]
 exact h.ids b (g1.subset hb)
theorem joinLo_sm {c : Ref} {s t z : Lo} {p : Mem} {g g' : Gl} (h : joinLo c s t g = (z,g')) (hs : Sm p s.mem) (ht : Sm p t.mem) : Sm p z.mem ∧ s.mem.nb ≤ z.mem.nb ∧ t.mem.nb ≤ z.mem.nb := by
 unfold joinLo at h
 rcases h1 : joinVs c s.tmps t.tmps g with ⟨ts,g1⟩
 rcases h2 : joinMem c s.mem t.mem g1 with ⟨ms,g2⟩
 rw [h1] at h
 simp only [h2] at h
 injection h with e1 e2; subst e1
 obtain ⟨k1,k2,k3⟩ := joinMem_sm h2 hs ht
 have hn := (gcMem_sub (ts := ts) (m := ms)).2
 exact ⟨k1.gc,by simp only [hn]; exact k2,by simp only [hn]; exact k3⟩
theorem joinLo_for {c : Ref} {s t z : Lo} {g g' : Gl} (h : joinLo c s t g = (z,g')) (H : Good I X E g') : (truth (c.val E) = true → For E s z) ∧ (truth (c.val E) = false → For E t z) := by
 have hk := (joinLo_ok h H).2
 have hn : s.mem.nb ≤ z.mem.nb ∧ t.mem.nb ≤ z.mem.nb := by
  unfold joinLo at h
  rcases h1 : joinVs c s.tmps t.tmps g with ⟨ts,g1⟩
  rcases h2 : joinMem c s.mem t.mem g1 with ⟨ms,g2⟩
  rw [h1] at h
  simp only [h2] at h
  injection h with e1 e2; subst e1
  have hn := (gcMem_sub (ts := ts) (m := ms)).2
  obtain ⟨_,k2,_⟩ := joinMem_ids h2
  simp only [hn,k2]
  exact ⟨Nat.le_max_left _ _,Nat.le_max_right _ _⟩
 exact ⟨fun hc=>⟨fun O ρ a w hR=>hk O ρ a w (fun _=>hR) (fun hf=>by rw [hc] at hf; cases hf),hn.1⟩,fun hc=>⟨fun O ρ a w hR=>hk O ρ a w (fun hf=>by rw [hc] at hf; cases hf) (fun _=>hR),hn.2⟩⟩
theorem offO_ok {c : Ref} : ∀ {b l : Outs} {g g' : Gl},offO c b g = (l,g') → (Good I X E g' → Good I X E g) ∧ kinds l = kinds b ∧ (∀ x ∈ l,∃ y ∈ b,y.2.2 = x.2.2) ∧ (∀ y ∈ b,∃ x ∈ l,y.2.2 = x.2.2) ∧
  (Good I X E g' → (truth (c.val E) = true → ∀ x ∈ l,truth (x.2.1.val E) = false) ∧ (truth (c.val E) = false → (∀ k s,Way E b k s → Way E l k s) ∧ ((∀ x ∈ b,truth (x.2.1.val E) = false) → ∀ x ∈ l,truth (x.2.1.val E) = false)))
 | [],l,g,g',h=>by
  simp only [offO,Prod.mk.injEq] at h
  obtain ⟨rfl,rfl⟩ := h
  exact ⟨fun H=>H,rfl,fun x hx=>(by cases hx),fun x hx=>(by cases hx),fun _=>⟨fun _ x hx=>(by cases hx),fun _=>⟨fun k s h=>h,fun _ x hx=>(by cases hx)⟩⟩⟩
 | (k0,r0,s0) :: b,l,g,g',h=>by
  simp only [offO] at h
  rcases h1 : g.ite c (.c 0) r0 with ⟨q,g1⟩
  rw [h1] at h
  simp only at h
  rcases h2 : offO c b g1 with ⟨l1,g2⟩
  rw [h2] at h
  simp only [Prod.mk.injEq] at h
  obtain ⟨rfl,rfl⟩ := h
  obtain ⟨k1,k2,k3,k3',k4⟩ := offO_ok h2
  refine ⟨fun H=>(ite_ok h1 (k1 H)).1,by simp only [kinds,List.map_cons] at k2 ⊢; rw [k2],fun x hx=>?_,fun y hy=>?_,fun H=>?_⟩
  ·rcases List.mem_cons.1 hx with rfl | hx
   ·exact ⟨_,List.mem_cons_self,rfl⟩
   ·obtain ⟨y,hy,e⟩ := k3 x hx
    exact ⟨y,List.mem_cons_of_mem _ hy,e⟩
  ·rcases List.mem_cons.1 hy with rfl | hy
   ·exact ⟨_,List.mem_cons_self,rfl⟩
   ·obtain ⟨x,hx,e⟩ := k3' y hy
    exact ⟨x,List.mem_cons_of_mem _ hx,e⟩
  ·obtain ⟨H1,hq⟩ := ite_ok h1 (k1 H)
   obtain ⟨t1,t2⟩ := k4 H
   refine ⟨fun hc x hx=>?_,fun hc=>⟨fun k s hway=>?_,fun hall x hx=>?_⟩⟩
   ·rcases List.mem_cons.1 hx with rfl | hx
    ·simp only; rw [hq,if_pos hc]; rfl
    ·exact t1 hc x hx
   ·have hqr : truth (q.val E) = truth (r0.val E) := by rw [hq,if_neg (by rw [hc]; simp)]
    obtain ⟨pre,r,post,e,hr,hoth⟩ := hway
    cases pre with
    | nil =>
     simp only [List.nil_append,List.cons.injEq,Prod.mk.injEq] at e
     obtain ⟨⟨rfl,rfl,rfl⟩,rfl⟩ := e
     exact ⟨[],q,l1,rfl,by rw [hqr]; exact hr,fun x hx=>(t2 hc).2 (fun y hy=>hoth y (by simpa using hy)) x (by simpa using hx)⟩
    | cons y pre =>
     simp only [List.cons_append,List.cons.injEq] at e
     obtain ⟨rfl,rfl⟩ := e
     obtain ⟨p2,r2,q2,e2,hr2,ho2⟩ := (t2 hc).1 k s ⟨pre,r,post,rfl,hr,fun x hx=>hoth x (by simp only [List.cons_append,List.mem_cons]; exact .inr hx)⟩
     refine ⟨(k0,q,s0) :: p2,r2,q2,by rw [e2]; rfl,hr2,fun x hx=>?_⟩
     simp only [List.cons_append,List.mem_cons] at hx
     rcases hx with rfl | hx
     ·simp only; rw [hqr]; exact hoth (k0,r0,s0) (by simp)
     ·exact ho2 x hx
   ·rcases List.mem_cons.1 hx with rfl | hx
    ·have hqr : truth (q.val E) = truth (r0.val E) := by rw [hq,if_neg (by rw [hc]; simp)]
     simp only; rw [hqr]; exact hall (k0,r0,s0) (by simp)
    ·exact (t2 hc).2 (fun y hy=>hall y (List.mem_cons_of_mem _ hy)) x hx
theorem sub_takeK {k : Kd} {l rest : Outs} {r : Ref} {s : Lo} (h : takeK k l = (some (r,s),rest)) (hn : (kinds l).Nodup) : (kinds rest).Nodup ∧ k ∉ kinds rest ∧ (∀ x ∈ rest,x ∈ l) ∧ (k,r,s) ∈ l ∧ (∀ x ∈ l,x = (k,r,s) ∨ x ∈ rest) := by
 obtain ⟨pre,post,rfl,rfl⟩ := takeK_some h
 unfold kinds at hn ⊢
 rw [List.map_append,List.map_cons] at hn
 obtain ⟨h1,h2,h3⟩ := List.nodup_append.1 hn
 obtain ⟨h4,h5⟩ := List.nodup_cons.1 h2
 refine ⟨?_,?_,fun x hx=>?_,by simp,fun x hx=>?_⟩
 ·rw [List.map_append]
  exact List.nodup_append.2 ⟨h1,h5,fun a ha b hb=>h3 a ha b (List.mem_cons_of_mem _ hb)⟩
 ·rw [List.map_append]
  intro hk
  rcases List.mem_append.1 hk with hk | hk
  ·exact h3 k hk k (by simp) rfl
  ·exact h4 hk
 ·rcases List.mem_append.1 hx with h | h <;> simp [h]
 ·rcases List.mem_append.1 hx with h | h
  ·exact .inr (List.mem_append_left _ h)
  ·rcases List.mem_cons.1 h with h | h
   ·exact .inl h
   ·exact .inr (List.mem_append_right _ h)
theorem joinO_ok {c : Ref} {p : Mem} : ∀ {a b l : Outs} {g g' : Gl},joinO c a b g = (l,g') → (kinds a).Nodup → (kinds b).Nodup → (∀ x ∈ a,Sm p x.2.2.mem) → (∀ x ∈ b,Sm p x.2.2.mem) → (Good I X E g' → Good I X E g) ∧ (kinds l).Nodup ∧ (∀ k ∈ kinds l,k ∈ kinds a ∨ k ∈ kinds b) ∧
  (∀ x ∈ l,Sm p x.2.2.mem) ∧ (∀ y ∈ a,∃ x ∈ l,y.2.2.mem.nb ≤ x.2.2.mem.nb) ∧ (∀ y ∈ b,∃ x ∈ l,y.2.2.mem.nb ≤ x.2.2.mem.nb) ∧
  (Good I X E g' → (truth (c.val E) = true → (∀ k s,Way E a k s → ∃ z,Way E l k z ∧ For E s z) ∧ ((∀ x ∈ a,truth (x.2.1.val E) = false) → ∀ x ∈ l,truth (x.2.1.val E) = false)) ∧
   (truth (c.val E) = false → (∀ k s,Way E b k s → ∃ z,Way E l k z ∧ For E s z) ∧ ((∀ x ∈ b,truth (x.2.1.val E) = false) → ∀ x ∈ l,truth (x.2.1.val E) = false)))
 | [],b,l,g,g',h,ha,hb,sa,sb=>by
  simp only [joinO] at h
  obtain ⟨k1,k2,k3,k3',k4⟩ := offO_ok (I := I) (X := X) (E := E) h
  refine ⟨k1,by rw [k2]; exact hb,fun k hk=>.inr (by rw [← k2]; exact hk),fun x hx=>?_,fun y hy=>(by cases hy),fun y hy=>?_,fun H=>⟨fun hc=>⟨fun k s hway=>?_,fun _=>(k4 H).1 hc⟩,fun hc=>⟨fun k s hway=>⟨s,((k4 H).2 hc).1 k s hway,For.rfl'⟩,((k4 H).2 hc).2⟩⟩⟩
  ·obtain ⟨y,hy,e⟩ := k3 x hx
   rw [← e]; exact sb y hy
  ·obtain ⟨x,hx,e⟩ := k3' y hy
   exact ⟨x,hx,by rw [e]; exact Nat.le_refl _⟩
  ·obtain ⟨r,hm,_⟩ := hway.mem
   cases hm
 | (k0,r0,s0) :: a,b,l,g,g',h,ha,hb,sa,sb=>by
  have ha' : (kinds a).Nodup ∧ k0 ∉ kinds a := by
   simp only [kinds,List.map_cons,List.nodup_cons] at ha; exact ⟨ha.2,ha.1⟩
  have sa' : ∀ x ∈ a,Sm p x.2.2.mem := fun x hx=>sa x (List.mem_cons_of_mem _ hx)
  have up : ∀ {q : Ref} {z : Lo} {l1 : Outs},truth (q.val E) = false → ∀ {k : Kd} {y : Lo},Way E l1 k y → Way E ((k0,q,z) :: l1) k y := fun {q z l1} hq {k y} hw=>by
   obtain ⟨pre,r,post,e,hr,ho⟩ := hw
   refine ⟨(k0,q,z) :: pre,r,post,by rw [e]; rfl,hr,fun x hx=>?_⟩
   simp only [List.cons_append,List.mem_cons] at hx
   rcases hx with rfl | hx
   ·exact hq
   ·exact ho x hx
  have headway : ∀ {q : Ref} {z : Lo} {l1 : Outs},truth (q.val E) = true → (∀ x ∈ l1,truth (x.2.1.val E) = false) → Way E ((k0,q,z) :: l1) k0 z := fun {q z l1} hq hl=>⟨[],q,l1,rfl,hq,fun x hx=>hl x (by simpa using hx)⟩
  have waycons : ∀ {k : Kd} {s : Lo},Way E ((k0,r0,s0) :: a) k s → (k = k0 ∧ s = s0 ∧ truth (r0.val E) = true ∧ ∀ x ∈ a,truth (x.2.1.val E) = false) ∨ (truth (r0.val E) = false ∧ Way E a k s) := fun {k s} hw=>by
   obtain ⟨pre,r,post,e,hr,ho⟩ := hw
   cases pre with
   | nil =>
    simp only [List.nil_append,List.cons.injEq,Prod.mk.injEq] at e
    obtain ⟨⟨rfl,rfl,rfl⟩,rfl⟩ := e
    exact .inl ⟨rfl,rfl,hr,fun x hx=>ho x (by simpa using hx)⟩
   | cons y pre =>
    simp only [List.cons_append,List.cons.injEq] at e
    obtain ⟨rfl,rfl⟩ := e
    exact .inr ⟨ho (k0,r0,s0) (by simp),pre,r,post,rfl,hr,fun x hx=>ho x (by simp only [List.cons_append,List.mem_cons]; exact .inr hx)⟩
  simp only [joinO] at h
  split at h
  ·rename_i r1 s1 b1 htk
   rcases h1 : g.ite c r0 r1 with ⟨q,g1⟩
   simp only [h1] at h
   rcases h2 : joinLo c s0 s1 g1 with ⟨z,g2⟩
   simp only [h2] at h
   rcases h3 : joinO c a b1 g2 with ⟨l1,g3⟩
   simp only [h3,Prod.mk.injEq] at h
   obtain ⟨rfl,rfl⟩ := h
   obtain ⟨u1,u2,u3,u4,u5⟩ := sub_takeK htk hb
   obtain ⟨t1,t2,t3,t4,t5,t6,t7⟩ := joinO_ok h3 ha'.1 u1 sa' (fun x hx=>sb x (u3 x hx))
   obtain ⟨z1,z2,z3⟩ := joinLo_sm h2 (sa _ List.mem_cons_self) (sb _ u4)
   refine ⟨fun H=>(ite_ok h1 (joinLo_ok h2 (t1 H)).1).1,?_,fun k hk=>?_,fun x hx=>?_,fun y hy=>?_,fun y hy=>?_,fun H=>?_⟩
   ·simp only [kinds,List.map_cons,List.nodup_cons]
    refine ⟨fun hk=>?_,t2⟩
    rcases t3 k0 hk with h | h
    ·exact ha'.2 h
    ·exact u2 h
   ·simp only [kinds,List.map_cons,List.mem_cons] at hk ⊢
    rcases hk with rfl | hk
    ·exact .inl (.inl rfl)
    ·rcases t3 k hk with h | h
     ·exact .inl (.inr h)
     ·right
      obtain ⟨x,hx,e⟩ := List.mem_map.1 h
      exact List.mem_map.2 ⟨x,u3 x hx,e⟩
   ·rcases List.mem_cons.1 hx with rfl | hx
    ·exact z1
    ·exact t4 x hx
   ·rcases List.mem_cons.1 hy with rfl | hy
    ·exact ⟨_,List.mem_cons_self,z2⟩
    ·obtain ⟨x,hx,e⟩ := t5 y hy
     exact ⟨x,List.mem_cons_of_mem _ hx,e⟩
   ·rcases u5 y hy with rfl | hy
    ·exact ⟨_,List.mem_cons_self,z3⟩
    ·obtain ⟨x,hx,e⟩ := t6 y hy
     exact ⟨x,List.mem_cons_of_mem _ hx,e⟩
   ·obtain ⟨H2,_⟩ := joinLo_ok h2 (t1 H)
    obtain ⟨_,hq⟩ := ite_ok h1 H2
    obtain ⟨f1,f2⟩ := joinLo_for h2 (t1 H)
    obtain ⟨v1,v2⟩ := t7 H
    refine ⟨fun hc=>?_,fun hc=>?_⟩
    ·have hqr : truth (q.val E) = truth (r0.val E) := by rw [hq,if_pos hc]
     refine ⟨fun k s hw=>?_,fun hall x hx=>?_⟩
     ·rcases waycons hw with ⟨rfl,rfl,hr,hoth⟩ | ⟨hr,hw⟩
      ·exact ⟨z,headway (by rw [hqr]; exact hr) ((v1 hc).2 hoth),f1 hc⟩
      ·obtain ⟨y,hy,hf⟩ := (v1 hc).1 k s hw
       exact ⟨y,up (by rw [hqr]; exact hr) hy,hf⟩
     ·rcases List.mem_cons.1 hx with rfl | hx
      ·simp only; rw [hqr]; exact hall (k0,r0,s0) List.mem_cons_self
      ·exact (v1 hc).2 (fun y hy=>hall y (List.mem_cons_of_mem _ hy)) x hx
    ·have hqr : truth (q.val E) = truth (r1.val E) := by rw [hq,if_neg (by rw [hc]; simp)]
     refine ⟨fun k s hw=>?_,fun hall x hx=>?_⟩
     ·rcases hw.split htk hb with ⟨rfl,rfl,hr,hoth⟩ | ⟨_,hr,hw⟩
      ·exact ⟨z,headway (by rw [hqr]; exact hr) ((v2 hc).2 hoth),f2 hc⟩
      ·obtain ⟨y,hy,hf⟩ := (v2 hc).1 k s hw
       exact ⟨y,up (by rw [hqr]; exact hr) hy,hf⟩
     ·rcases List.mem_cons.1 hx with rfl | hx
      ·simp only; rw [hqr]; exact hall (k0,r1,s1) u4
      ·exact (v2 hc).2 (fun y hy=>hall y (u3 y hy)) x hx
  ·rename_i b1 htk
   rcases h1 : g.ite c r0 (.c 0) with ⟨q,g1⟩
   simp only [h1] at h
   obtain ⟨rfl,hnk⟩ := takeK_none htk
   rcases h3 : joinO c a b1 g1 with ⟨l1,g3⟩
   simp only [h3,Prod.mk.injEq] at h
   obtain ⟨rfl,rfl⟩ := h
   obtain ⟨t1,t2,t3,t4,t5,t6,t7⟩ := joinO_ok h3 ha'.1 hb sa' sb
   refine ⟨fun H=>(ite_ok h1 (t1 H)).1,?_,fun k hk=>?_,fun x hx=>?_,fun y hy=>?_,fun y hy=>?_,fun H=>?_⟩
   ·simp only [kinds,List.map_cons,List.nodup_cons]
    refine ⟨fun hk=>?_,t2⟩
    rcases t3 k0 hk with h | h
    ·exact ha'.2 h
    ·obtain ⟨x,hx,e⟩ := List.mem_map.1 h
     exact hnk x hx e
   ·simp only [kinds,List.map_cons,List.mem_cons] at hk ⊢
    rcases hk with rfl | hk
    ·exact .inl (.inl rfl)
    ·rcases t3 k hk with h | h
     ·exact .inl (.inr h)
     ·exact .inr h
   ·rcases List.mem_cons.1 hx with rfl | hx
    ·exact sa (k0,r0,s0) List.mem_cons_self
    ·exact t4 x hx
   ·rcases List.mem_cons.1 hy with rfl | hy
    ·exact ⟨_,List.mem_cons_self,Nat.le_refl _⟩
    ·obtain ⟨x,hx,e⟩ := t5 y hy
     exact ⟨x,List.mem_cons_of_mem _ hx,e⟩
   ·obtain ⟨x,hx,e⟩ := t6 y hy
    exact ⟨x,List.mem_cons_of_mem _ hx,e⟩
   ·obtain ⟨_,hq⟩ := ite_ok h1 (t1 H)
    obtain ⟨v1,v2⟩ := t7 H
    refine ⟨fun hc=>?_,fun hc=>?_⟩
    ·have hqr : truth (q.val E) = truth (r0.val E) := by rw [hq,if_pos hc]
     refine ⟨fun k s hw=>?_,fun hall x hx=>?_⟩
     ·rcases waycons hw with ⟨rfl,rfl,hr,hoth⟩ | ⟨hr,hw⟩
      ·exact ⟨_,headway (by rw [hqr]; exact hr) ((v1 hc).2 hoth),For.rfl'⟩
      ·obtain ⟨y,hy,hf⟩ := (v1 hc).1 k s hw
       exact ⟨y,up (by rw [hqr]; exact hr) hy,hf⟩
     ·rcases List.mem_cons.1 hx with rfl | hx
      ·simp only; rw [hqr]; exact hall (k0,r0,s0) List.mem_cons_self
      ·exact (v1 hc).2 (fun y hy=>hall y (List.mem_cons_of_mem _ hy)) x hx
    ·have hqf : truth (q.val E) = false := by rw [hq,if_neg (by rw [hc]; simp)]; rfl
     refine ⟨fun k s hw=>?_,fun hall x hx=>?_⟩
     ·obtain ⟨y,hy,hf⟩ := (v2 hc).1 k s hw
      exact ⟨y,up hqf hy,hf⟩
     ·rcases List.mem_cons.1 hx with rfl | hx
      ·exact hqf
      ·exact (v2 hc).2 hall x hx
theorem pcs_ok {pc : Ref} : ∀ {o l : Outs} {g g' : Gl},pcs pc o g = (l,g') → (Good I X E g' → Good I X E g) ∧ kinds l = kinds o ∧ (∀ x ∈ l,∃ y ∈ o,y.2.2.mem = x.2.2.mem) ∧ (∀ y ∈ o,∃ x ∈ l,y.2.2.mem = x.2.2.mem) ∧
  (Good I X E g' → ((∀ x ∈ o,truth (x.2.1.val E) = false) → ∀ x ∈ l,truth (x.2.1.val E) = false) ∧ (truth (pc.val E) = true → ∀ k s,Way E o k s → ∃ z,Way E l k z ∧ For E s z))
 | [],l,g,g',h=>by
  simp only [pcs,Prod.mk.injEq] at h
  obtain ⟨rfl,rfl⟩ := h
  exact ⟨fun H=>H,rfl,fun x hx=>(by cases hx),fun x hx=>(by cases hx),fun _=>⟨fun _ x hx=>(by cases hx),fun _ k s hw=>⟨s,hw,For.rfl'⟩⟩⟩
 | (k0,r0,s0) :: o,l,g,g',h=>by
  simp only [pcs] at h
  rcases h1 : g.and pc r0 with ⟨q,g1⟩
  simp only [h1] at h
  rcases h2 : pcs pc o g1 with ⟨l1,g2⟩
  simp only [h2,Prod.mk.injEq] at h
  obtain ⟨rfl,rfl⟩ := h
  obtain ⟨k1,k2,k3,k3',k4⟩ := pcs_ok h2
  refine ⟨fun H=>(and_ok h1 (k1 H)).1,by simp only [kinds,List.map_cons] at k2 ⊢; rw [k2],fun x hx=>?_,fun y hy=>?_,fun H=>⟨fun hall x hx=>?_,fun hp k s hw=>?_⟩⟩
  ·rcases List.mem_cons.1 hx with rfl | hx
   ·exact ⟨_,List.mem_cons_self,rfl⟩
   ·obtain ⟨y,hy,e⟩ := k3 x hx
    exact ⟨y,List.mem_cons_of_mem _ hy,e⟩
  ·rcases List.mem_cons.1 hy with rfl | hy
   ·exact ⟨_,List.mem_cons_self,rfl⟩
   ·obtain ⟨x,hx,e⟩ := k3' y hy
    exact ⟨x,List.mem_cons_of_mem _ hx,e⟩
  ·rcases List.mem_cons.1 hx with rfl | hx
   ·exact hall (k0,r0,s0) List.mem_cons_self
   ·exact (k4 H).1 (fun y hy=>hall y (List.mem_cons_of_mem _ hy)) x hx
  ·obtain ⟨_,hq⟩ := and_ok h1 (k1 H)
   obtain ⟨pre,r,post,e,hr,ho⟩ := hw
   cases pre with
   | nil =>
    simp only [List.nil_append,List.cons.injEq,Prod.mk.injEq] at e
    obtain ⟨⟨rfl,rfl,rfl⟩,rfl⟩ := e
    exact ⟨{ s0 with pc := q },⟨[],r0,l1,rfl,hr,fun x hx=>(k4 H).1 (fun y hy=>ho y (by simpa using hy)) x (by simpa using hx)⟩,⟨fun O ρ a w hR=>⟨hR.size,hR.tmp,hR.defers,hR.mem,by simp only; rw [hq,hp,hr]; rfl⟩,Nat.le_refl _⟩⟩
   | cons y pre =>
    simp only [List.cons_append,List.cons.injEq] at e
    obtain ⟨rfl,rfl⟩ := e
    obtain ⟨z,⟨p2,r2,q2,e2,hr2,ho2⟩,hf⟩ := (k4 H).2 hp k s ⟨pre,r,post,rfl,hr,fun x hx=>ho x (by simp only [List.cons_append,List.mem_cons]; exact .inr hx)⟩
    refine ⟨z,⟨(k0,r0,{ s0 with pc := q }) :: p2,r2,q2,by rw [e2]; rfl,hr2,fun x hx=>?_⟩,hf⟩
    simp only [List.cons_append,List.mem_cons] at hx
    rcases hx with rfl | hx
    ·exact ho (k0,r0,s0) (by simp)
    ·exact ho2 x hx
theorem For.trans {s t z : Lo} (h : For E s t) (h' : For E t z) : For E s z := ⟨fun O ρ a w hR=>h'.r O ρ a w (h.r O ρ a w hR),Nat.le_trans h.nb h'.nb⟩
end
def Kd.exit_ : Kd → Exit
 | .norm=>.normal
 | .exit id=>.exit id
 | .ret=>.ret
section
variable {O : Objs} {I : Nat → Int} {X : Nat → List Int → Int} {ρ ρ' : Map} {E : Nat → Int} {w w' : World} {m m' m1 m2 : Mem} {g g' : Gl} {C : Cx} [TyOk C.P C.T] {call : CallF}
def Does (C : Cx) (O : Objs) (E : Nat → Int) (s : Lo) (o : Outs) (Run : (Exit → Act → World → Prop) → Act → World → Prop) : Prop :=
 ∀ ρ a w,R O ρ E s a w → GlobOk C ρ → ∀ N,(∀ x ∈ o,x.2.2.mem.nb ≤ N) → Fresh ρ s.mem.nb N →
  ∀ Q : Exit → Act → World → Prop,(∀ k s',Way E o k s' → ∀ ρ' a' w',R O ρ' E s' a' w' → Ext ρ ρ' s.mem s'.mem w w' → Q k.exit_ a' w') → Run Q a w
omit [TyOk C.P C.T] in
theorem Does.mono {s : Lo} {o o' : Outs} {Run : (Exit → Act → World → Prop) → Act → World → Prop} (h : Does C O E s o Run) (hw : ∀ k s',Way E o k s' → ∃ z,Way E o' k z ∧ For E s' z) (hn : ∀ x ∈ o,∃ y ∈ o',x.2.2.mem.nb ≤ y.2.2.mem.nb) : Does C O E s o' Run :=
 fun ρ a w hR hG N hN hf Q hQ=>h ρ a w hR hG N (fun x hx=>by obtain ⟨y,hy,e⟩ := hn x hx; have := hN y hy; omega) hf Q fun k s' hway ρ' a' w' hR' hE=>by
  obtain ⟨z,hz,hfor⟩ := hw k s' hway
  exact hQ k z hz ρ' a' w' (hfor.r _ _ _ _ hR') (hE.up hfor.nb)
omit [TyOk C.P C.T] in
theorem Does.low {s : Lo} {n : Nat} {o : Outs} {Run : (Exit → Act → World → Prop) → Act → World → Prop} (h : Does C O E { s with mem := ⟨s.mem.bs,n⟩ } o Run) (hW : WF s.mem) (hn : s.mem.nb ≤ n) : Does C O E s o Run :=
 fun ρ a w hR hG N hN hf Q hQ=>h ρ a w ⟨hR.size,hR.tmp,hR.defers,hR.mem,hR.pc⟩ hG N hN (hf.sub hn (Nat.le_refl _)) Q fun k s' hway ρ' a' w' hR' hE=>hQ k s' hway ρ' a' w' hR' ⟨hE.le,hE.size,hE.keep,fun i=>by
  rcases hE.chg i with (h1 | ⟨_,b,hb,e⟩) | h1
  ·simp only at h1; exact .inl (.inl (by omega))
  ·exact .inl (.inr ⟨by rw [← e]; exact hW.2 b hb,b,hb,e⟩)
  ·exact .inr h1,hE.new,hE.io⟩
theorem WF.more {m : Mem} {n : Nat} (hW : WF m) (hn : m.nb ≤ n) : WF ⟨m.bs,n⟩ := ⟨hW.1,fun b hb=>Nat.lt_of_lt_of_le (hW.2 b hb) hn⟩
theorem Sm.more {m : Mem} {n : Nat} (hn : m.nb ≤ n) : Sm m ⟨m.bs,n⟩ := ⟨hn,fun b hb=>.inl ⟨b,hb,rfl⟩,fun hW=>hW.more hn⟩
omit [TyOk C.P C.T] in
theorem does_seq {s s1 : Lo} {oa rest ob l : Outs} {r : Ref} {Ra Rb Rc : (Exit → Act → World → Prop) → Act → World → Prop}
  (hc : ∀ Q a w,Ra (fun e a w=>match e with | .normal=>Rb Q a w | e=>Q e a w) a w → Rc Q a w)
  (hka : (kinds oa).Nodup) (htk : takeK .norm oa = (some (r,s1),rest)) (hsa : Sm s.mem s1.mem) (hne : ob ≠ []) (hsb : ∀ x ∈ ob,Sm s1.mem x.2.2.mem)
  (ha : Does C O E s oa Ra) (hb : truth (r.val E) = true → Does C O E s1 ob Rb) (hl1 : truth (r.val E) = true → ∀ k s',Way E ob k s' → ∃ z,Way E l k z ∧ For E s' z) (hl2 : truth (r.val E) = false → ∀ k s',Way E rest k s' → ∃ z,Way E l k z ∧ For E s' z)
  (hnb : ∀ x ∈ ob,∃ y ∈ l,x.2.2.mem.nb ≤ y.2.2.mem.nb) (hnr : ∀ x ∈ rest,∃ y ∈ l,x.2.2.mem.nb ≤ y.2.2.mem.nb) : Does C O E s l Rc := fun ρ a w hR hG N hN hf Q hQ=>by
 obtain ⟨u1,u2,u3,u4,u5⟩ := sub_takeK htk hka
 have hob : ∀ x ∈ ob,x.2.2.mem.nb ≤ N := fun x hx=>by obtain ⟨y,hy,e⟩ := hnb x hx; have := hN y hy; omega
 have hs1N : s1.mem.nb ≤ N := by
  cases ob with
  | nil=>exact absurd rfl hne
  | cons x ob=>have := (hsb x (by simp)).nb; have := hob x (by simp); omega
 refine hc Q a w (ha ρ a w hR hG N (fun x hx=>?_) hf _ fun k s' hw ρ' a' w' hR' hE=>?_)
 ·rcases u5 x hx with rfl | hx
  ·exact hs1N
  ·obtain ⟨y,hy,e⟩ := hnr x hx; have := hN y hy; omega
 ·rcases hw.split htk hka with ⟨rfl,rfl,hr,_⟩ | ⟨hk,hr,hw⟩
  ·show Rb Q a' w'
   have hst := hsa.st (g := ⟨[],0,[]⟩) (g' := ⟨[],0,[]⟩) (I := fun _=>0) (X := fun _ _=>0) (E := fun _=>0) fun H=>H
   refine hb hr ρ' a' w' hR' (hG.mono hE.le) N hob (fun i h1 h2=>?_) Q fun k s' hw ρ2 a2 w2 hR2 hE2=>?_
   ·rcases hE.chg i with (h | h) | h
    ·omega
    ·have := hsa.nb; omega
    ·rw [h]; exact hf i (by have := hsa.nb; omega) h2
   ·obtain ⟨z,hz,hfor⟩ := hl1 hr k s' hw
    obtain ⟨r2,hm2,_⟩ := hw.mem
    have hst2 := (hsb _ hm2).st (g := ⟨[],0,[]⟩) (g' := ⟨[],0,[]⟩) (I := fun _=>0) (X := fun _ _=>0) (E := fun _=>0) fun H=>H
    exact hQ k z hz ρ2 a2 w2 (hfor.r _ _ _ _ hR2) ((hE.trans hE2 hst hst2 (hf.sub (Nat.le_refl _) hs1N)).up hfor.nb)
  ·obtain ⟨z,hz,hfor⟩ := hl2 hr k s' hw
   have := hQ k z hz ρ' a' w' (hfor.r _ _ _ _ hR') (hE.up hfor.nb)
   cases k with
   | norm=>exact absurd rfl hk
   | exit id=>exact this
   | ret=>exact this
structure CodeOk (C : Cx) (O : Objs) (I : Nat → Int) (X : Nat → List Int → Int) (E : Nat → Int) (f : Nat) (c : Code) (s : Lo) (g : Gl) (o : Outs) (g' : Gl) : Prop where
 good : Good I X E g' → Good I X E g
 os : Os s.mem o
 run : Good I X E g' → Does C O E s o (c.wp C.P)
 rounds : Good I X E g' → ∀ c0,c = .loop c0 → Does C O E s o (fun Q=>Code.rounds C.P c0 Q f)
end
section
variable {O : Objs} {I : Nat → Int} {X : Nat → List Int → Int} {ρ : Map} {E : Nat → Int} {w : World} {g g' : Gl}
theorem M.cell {m : Mem} {b : SB} (hb : b ∈ m.bs) (hM : M O ρ E m.bs w) (hW : WF m) {off : Nat} {l l' : Leaf} (hl : b.cells[off]? = some l) (h : ∀ v,l.sat ρ E v → l'.sat ρ E v) : M O ρ E (setB m b.id (b.cells.set off l')).bs w := by
 have hs : ∀ c ∈ (setB m b.id (b.cells.set off l')).bs,∃ d ∈ m.bs,d.id = c.id ∧ d.cs = c.cs ∧ d.obj = c.obj ∧ ∀ vs,sats ρ E d.cells vs → sats ρ E c.cells vs := fun c hc=>by
  simp only [setB,List.mem_map] at hc
  obtain ⟨d,hd,rfl⟩ := hc
  refine ⟨d,hd,?_⟩
  by_cases e : d.id = b.id
  ·obtain rfl := hW.uniq hd hb e
   simp only [beq_self_eq_true,if_true,true_and]
   intro vs hv
   obtain ⟨v,hv1,hv2⟩ := sats_get hv hl
   have := sats_set off hv (h v hv2)
   have e2 : vs.set off v = vs := by
    apply List.ext_getElem?
    intro j
    rw [List.getElem?_set]
    split
    ·rename_i hj; subst hj
     split
     ·exact hv1.symm
     ·rename_i hj
      rw [List.getElem?_eq_none (by omega)]
    ·rfl
   rw [e2] at this
   exact this
  ·have : (d.id == b.id) = false := by simpa using e
   simp only [this]
   exact ⟨rfl,rfl,rfl,fun _ h=>h⟩
 refine ⟨fun c hc hcs=>?_,fun c hc c' hc' hcs hcs' hne L L' hL hL'=>?_,fun c hc hcs L hL=>?_⟩
 ·obtain ⟨d,d1,d2,d3,d4,d5⟩ := hs c hc
  exact (hM.blk d d1 (d3 ▸ hcs)).congr d2 d4 d5
 ·obtain ⟨d,d1,d2,d3,d4,d5⟩ := hs c hc
  obtain ⟨e,e1,e2,e3,e4,e5⟩ := hs c' hc'
  exact hM.disj d d1 e e1 (d3 ▸ hcs) (e3 ▸ hcs') (by rw [d2,e2]; exact hne) L L' (by rw [d2]; exact hL) (by rw [e2]; exact hL')
 ·obtain ⟨d,d1,d2,d3,d4,d5⟩ := hs c hc
  exact hM.low d d1 (d3 ▸ hcs) L (by rw [d2]; exact hL)
theorem mergeB_ok {m m' : Mem} {id off : Nat} (h : mergeB m id off g = some (m',g')) : St I X E g g' m m' ∧
  (Good I X E g' → M O ρ E m.bs w → WF m → ρ m.nb = none → ∃ ρ',M O ρ' E m'.bs w ∧ Ext ρ ρ' m m' w w) := by
 unfold mergeB at h
 split at h
 ·rename_i b hb
  split at h
  ·rename_i l hl
   split at h
   ·rename_i l' m1 g1 hm
    split at h
    ·rename_i b' hb'
     split at h
     ·rename_i hc
      injection h with h; injection h with e1 e2; subst e1; subst e2
      obtain ⟨q1,q2,_,_⟩ := mergeL_ok (I := I) (X := X) (E := E) (O := O) (ρ := ρ) (w := w) hm
      obtain ⟨_,_,_,q3⟩ := mergeL_ok (I := I) (X := X) (E := E) (O := O) (ρ := ρ) (w := w) hm
      obtain ⟨b1,b2,_⟩ := getB_ok hb'
      have s2 : St I X E g1 g1 m1 (setB m1 id (b.cells.set off l')) := St.setB fun H=>H
      refine ⟨q1.trans s2,fun H hM hW hn=>?_⟩
      obtain ⟨i,p1,p2,p3⟩ := q3 H hM hW hn
      have hl' : b'.cells[off]? = some l := by rw [hc]; exact hl
      have := M.cell (m := m1) b1 p1 (q1.wf hW) hl' p3
      rw [b2,hc] at this
      refine ⟨_,this,p2.le,p2.size,p2.keep,fun j=>?_,p2.new,p2.io⟩
      exact p2.chg j
     ·cases h
    ·cases h
   ·cases h
  ·cases h
 ·cases h
theorem mergeB_nb {m m' : Mem} {id off : Nat} (h : mergeB m id off g = some (m',g')) : m'.nb = m.nb + 1 := by
 unfold mergeB at h
 split at h
 ·split at h
  ·split at h
   ·rename_i hm
    split at h
    ·split at h
     ·injection h with h; injection h with e1 e2
      rw [← e1]
      exact (mergeL_ok (O := ⟨fun _ _ _ _=>True,fun _ _ _=>trivial⟩) (I := fun _=>0) (X := fun _ _=>0) (E := fun _=>0) (ρ := fun _=>none) (w := default) hm).2.1
     ·cases h
    ·cases h
   ·cases h
  ·cases h
 ·cases h
theorem mgS_ok {s : Lo} : (mgS s g).1.tmps = s.tmps ∧ (mgS s g).1.pc = s.pc ∧ St I X E g (mgS s g).2 s.mem (mgS s g).1.mem ∧
  (Good I X E (mgS s g).2 → M O ρ E s.mem.bs w → WF s.mem → Fresh ρ s.mem.nb (mgS s g).1.mem.nb → ∃ ρ',M O ρ' E (mgS s g).1.mem.bs w ∧ Ext ρ ρ' s.mem (mgS s g).1.mem w w) := by
 unfold mgS
 split
 ·exact ⟨rfl,rfl,St.rfl',fun _ hM _ _=>⟨ρ,hM,Ext.rfl'⟩⟩
 ·split
  ·rename_i p hp
   split
   ·rename_i r hr
    obtain ⟨m',g'⟩ := r
    obtain ⟨a1,a2⟩ := mergeB_ok (O := O) (I := I) (X := X) (E := E) (ρ := ρ) (w := w) hr
    refine ⟨rfl,rfl,a1,fun H hM hW hf=>a2 H hM hW (hf _ (Nat.le_refl _) ?_)⟩
    have := mergeB_nb hr
    simp only; omega
   ·exact ⟨rfl,rfl,St.rfl',fun _ hM _ _=>⟨ρ,hM,Ext.rfl'⟩⟩
  ·exact ⟨rfl,rfl,St.rfl',fun _ hM _ _=>⟨ρ,hM,Ext.rfl'⟩⟩
theorem Sm.of_st {m m' : Mem} (h : ∀ I X E,St I X E g g' m m') : Sm m m' := let h := h (fun _=>0) (fun _ _=>0) (fun _=>0); ⟨h.nb,h.ids,h.wf⟩
theorem mgS_sm {s : Lo} : Sm s.mem (mgS s g).1.mem := Sm.of_st (g := g) (g' := (mgS s g).2) fun _I _X _E=>(mgS_ok (O := ⟨fun _ _ _ _=>True,fun _ _ _=>trivial⟩) (ρ := fun _=>none) (w := default)).2.2.1
theorem Does.mg {C : Cx} {s : Lo} {o : Outs} {Run : (Exit → Act → World → Prop) → Act → World → Prop} (H : Good I X E (mgS s g).2) (hW : WF s.mem) (ho : Os (mgS s g).1.mem o) (h : Does C O E (mgS s g).1 o Run) : Does C O E s o Run :=
 fun ρ a w hR hG N hN hf Q hQ=>by
  have hsm : Sm s.mem (mgS s g).1.mem := mgS_sm
  have hs1N : (mgS s g).1.mem.nb ≤ N := by
   cases o with
   | nil=>exact absurd rfl ho.ne
   | cons x o=>have := (ho.sm x (by simp)).nb; have := hN x (by simp); omega
  obtain ⟨e1,e2,hst,hm⟩ := mgS_ok (O := O) (I := I) (X := X) (E := E) (ρ := ρ) (w := w) (g := g) (s := s)
  obtain ⟨ρ1,hM1,hE1⟩ := hm H hR.mem hW (hf.sub (Nat.le_refl _) hs1N)
  refine h ρ1 a w ⟨by rw [e1]; exact hR.size,fun i x hx=>?_,hR.defers,hM1,by rw [e2]; exact hR.pc⟩ (hG.mono hE1.le) N hN (fun i h1 h2=>?_) Q fun k s' hw ρ' a' w' hR' hE=>?_
  ·rw [e1] at hx
   exact x.mono hE1.le (hR.tmp i x hx)
  ·rcases hE1.chg i with (h | h) | h
   ·omega
   ·have := hsm.nb; omega
   ·rw [h]; exact hf i (by have := hsm.nb; omega) h2
  ·obtain ⟨r2,hm2,_⟩ := hw.mem
   have hst2 := (ho.sm _ hm2).st (g := ⟨[],0,[]⟩) (g' := ⟨[],0,[]⟩) (I := fun _=>0) (X := fun _ _=>0) (E := fun _=>0) fun H=>H
   have hst1 := hsm.st (g := ⟨[],0,[]⟩) (g' := ⟨[],0,[]⟩) (I := fun _=>0) (X := fun _ _=>0) (E := fun _=>0) fun H=>H
   exact hQ k s' hw ρ' a' w' hR' (hE1.trans hE hst1 hst2 (hf.sub (Nat.le_refl _) hs1N))
theorem Os.mg {s : Lo} {o : Outs} (h : Os (mgS s g).1.mem o) : Os s.mem o := ⟨h.nodup,h.ne,fun x hx=>mgS_sm.trans (h.sm x hx)⟩
end
section
variable {O : Objs} {I : Nat → Int} {X : Nat → List Int → Int} {ρ ρ' : Map} {E : Nat → Int} {w w' : World} {m m' m1 m2 : Mem} {g g' : Gl} {C : Cx} [TyOk C.P C.T] {call : CallF}
theorem one_way {k : Kd} {s : Lo} : Way E [(k,.c 1,s)] k s := ⟨[],.c 1,[],rfl,rfl,fun x hx=>by simp at hx⟩
theorem os_one {m : Mem} {k : Kd} {s : Lo} (h : Sm m s.mem) : Os m [(k,.c 1,s)] := ⟨by simp [kinds],by simp,fun x hx=>by
 rw [List.mem_singleton] at hx; subst hx; exact h⟩
theorem seq_pack {s s1 : Lo} {oa rest ob o : Outs} {r : Ref} {g1 g2 : Gl} (htk : takeK .norm oa = (some (r,s1),rest)) (hoa : Os s.mem oa) (hob : Os s1.mem ob)
  (h : (if rest.isEmpty = true then some (ob,g2) else some (pcs s.pc (joinO r ob rest g2).1 (joinO r ob rest g2).2)) = some (o,g1)) :
  (Good I X E g1 → Good I X E g2) ∧ Os s.mem o ∧ (Good I X E g1 → truth (s.pc.val E) = true →
   (truth (r.val E) = true → ∀ k s',Way E ob k s' → ∃ z,Way E o k z ∧ For E s' z) ∧ (truth (r.val E) = false → ∀ k s',Way E rest k s' → ∃ z,Way E o k z ∧ For E s' z)) ∧
  (∀ x ∈ ob,∃ y ∈ o,x.2.2.mem.nb ≤ y.2.2.mem.nb) ∧ (∀ x ∈ rest,∃ y ∈ o,x.2.2.mem.nb ≤ y.2.2.mem.nb) := by
 obtain ⟨u1,u2,u3,u4,u5⟩ := sub_takeK htk hoa.nodup
 have hs1 := hoa.sm _ u4
 have hsb : ∀ x ∈ ob,Sm s.mem x.2.2.mem := fun x hx=>hs1.trans (hob.sm x hx)
 split at h
 ·rename_i he
  have hre : rest = [] := by simpa using he
  subst hre
  injection h with h; injection h with e1 e2; subst e1; subst e2
  refine ⟨fun H=>H,⟨hob.nodup,hob.ne,hsb⟩,fun _ _=>⟨fun _ k s' hw=>⟨s',hw,For.rfl'⟩,fun _ k s' hw=>?_⟩,fun x hx=>⟨x,hx,Nat.le_refl _⟩,fun x hx=>by cases hx⟩
  obtain ⟨_,hm,_⟩ := hw.mem
  cases hm
 ·rcases hj : joinO r ob rest g2 with ⟨l,g3⟩
  rw [hj] at h
  rcases hp : pcs s.pc l g3 with ⟨l2,g4⟩
  simp only [hp] at h
  injection h with h; injection h with e1 e2; subst e1; subst e2
  obtain ⟨t1,t2,t3,t4,t5,t6,t7⟩ := joinO_ok (I := I) (X := X) (E := E) hj hob.nodup u1 hsb (fun x hx=>hoa.sm x (u3 x hx))
  obtain ⟨k1,k2,k3,k3',k4⟩ := pcs_ok (I := I) (X := X) (E := E) hp
  refine ⟨fun H=>t1 (k1 H),⟨by rw [k2]; exact t2,?_,fun x hx=>?_⟩,fun H hpc=>?_,fun x hx=>?_,fun x hx=>?_⟩
  ·intro he
   subst he
   cases ob with
   | nil=>exact hob.ne rfl
   | cons x ob =>
    obtain ⟨y,hy,_⟩ := t5 x (by simp)
    obtain ⟨z,hz,_⟩ := k3' y hy
    cases hz
  ·obtain ⟨y,hy,e⟩ := k3 x hx
   rw [← e]; exact t4 y hy
  ·obtain ⟨v1,v2⟩ := t7 (k1 H)
   have up := (k4 H).2 hpc
   refine ⟨fun hr k s' hw=>?_,fun hr k s' hw=>?_⟩
   ·obtain ⟨z,hz,hf⟩ := (v1 hr).1 k s' hw
    obtain ⟨y,hy,hf2⟩ := up k z hz
    exact ⟨y,hy,hf.trans hf2⟩
   ·obtain ⟨z,hz,hf⟩ := (v2 hr).1 k s' hw
    obtain ⟨y,hy,hf2⟩ := up k z hz
    exact ⟨y,hy,hf.trans hf2⟩
  ·obtain ⟨y,hy,e⟩ := t5 x hx
   obtain ⟨z,hz,e2⟩ := k3' y hy
   exact ⟨z,hz,by rw [← e2]; exact e⟩
  ·obtain ⟨y,hy,e⟩ := t6 x hx
   obtain ⟨z,hz,e2⟩ := k3' y hy
   exact ⟨z,hz,by rw [← e2]; exact e⟩
omit [TyOk C.P C.T] in
theorem does_pc {s : Lo} {o : Outs} {Run : (Exit → Act → World → Prop) → Act → World → Prop} (h : truth (s.pc.val E) = true → Does C O E s o Run) : Does C O E s o Run := fun ρ a w hR=>h hR.pc ρ a w hR
theorem bumpO_ok (n : Nat) (o : Outs) : kinds (bumpO n o) = kinds o ∧ (∀ x ∈ bumpO n o,∃ y ∈ o,x.2.2.mem.bs = y.2.2.mem.bs ∧ x.2.2.mem.nb = max n y.2.2.mem.nb) ∧ (∀ y ∈ o,∃ x ∈ bumpO n o,y.2.2.mem.nb ≤ x.2.2.mem.nb ∧ n ≤ x.2.2.mem.nb) ∧
  (∀ k s,Way E o k s → ∃ z,Way E (bumpO n o) k z ∧ For E s z) := by
 refine ⟨?_,fun x hx=>?_,fun y hy=>?_,fun k s hw=>?_⟩
 ·simp only [kinds,bumpO,List.map_map]
  rfl
 ·obtain ⟨y,hy,rfl⟩ := List.mem_map.1 hx
  exact ⟨y,hy,rfl,rfl⟩
 ·exact ⟨_,List.mem_map.2 ⟨y,hy,rfl⟩,Nat.le_max_right _ _,Nat.le_max_left _ _⟩
 ·obtain ⟨pre,r,post,rfl,hr,ho⟩ := hw
  refine ⟨{ s with mem := ⟨s.mem.bs,max n s.mem.nb⟩ },⟨bumpO n pre,r,bumpO n post,by simp [bumpO],hr,fun x hx=>?_⟩,⟨fun O ρ a w hR=>⟨hR.size,hR.tmp,hR.defers,hR.mem,hR.pc⟩,Nat.le_max_right _ _⟩⟩
  rcases List.mem_append.1 hx with hx | hx
  ·obtain ⟨y,hy,rfl⟩ := List.mem_map.1 hx
   exact ho y (List.mem_append_left _ hy)
  ·obtain ⟨y,hy,rfl⟩ := List.mem_map.1 hx
   exact ho y (List.mem_append_right _ hy)
theorem evCode_ok (hcall : CallOk C O I X E call) (hmix : C.P.follows .mixedOrders = true) : ∀ (f : Nat) (c : Code) (s : Lo) (g : Gl) (o : Outs) (g' : Gl),WF s.mem → evCode C call f c s g = some (o,g') → CodeOk C O I X E f c s g o g'
 | 0,c,s,g,o,g',_,h=>by simp [evCode] at h
 | f + 1,c,s,g,o,g',hW,h=>by
  have IH := evCode_ok hcall hmix f
  have norounds : ∀ {c : Code} {o : Outs},(∀ c0,c ≠ .loop c0) → Good I X E g' → ∀ c0,c = .loop c0 → Does C O E s o (fun Q=>Code.rounds C.P c0 Q (f + 1)) := fun hn _ c0 hc=>absurd hc (hn c0)
  cases c with
  | skip =>
   simp only [evCode] at h
   injection h with h; injection h with e1 e2; subst e1; subst e2
   refine ⟨fun H=>H,os_one Sm.rfl',fun _ ρ a w hR hG N hN hf Q hQ=>wp_skip (hQ .norm s one_way ρ a w hR Ext.rfl'),norounds (fun c0=>by simp)⟩
  | label l =>
   simp only [evCode] at h
   injection h with h; injection h with e1 e2; subst e1; subst e2
   exact ⟨fun H=>H,os_one Sm.rfl',fun _ ρ a w hR hG N hN hf Q hQ=>wp_label (hQ .norm s one_way ρ a w hR Ext.rfl'),norounds (fun c0=>by simp)⟩
  | ret =>
   simp only [evCode] at h
   injection h with h; injection h with e1 e2; subst e1; subst e2
   exact ⟨fun H=>H,os_one Sm.rfl',fun _ ρ a w hR hG N hN hf Q hQ=>wp_ret (hQ .ret s one_way ρ a w hR Ext.rfl'),norounds (fun c0=>by simp)⟩
  | exit id =>
   simp only [evCode] at h
   injection h with h; injection h with e1 e2; subst e1; subst e2
   exact ⟨fun H=>H,os_one Sm.rfl',fun _ ρ a w hR hG N hN hf Q hQ=>wp_exit (hQ (.exit id) s one_way ρ a w hR Ext.rfl'),norounds (fun c0=>by simp)⟩
  | region id ops draw =>
   simp only [evCode,evC_region] at h
   split at h
   ·rename_i s1 g1 h1
    injection h with h; injection h with e1 e2; subst e1; subst e2
    obtain ⟨q1,q2⟩ := evRegion_ok (O := O) (I := I) (X := X) (E := E) hcall hmix h1 hW
    refine ⟨q1.good,os_one q1.sm,fun H ρ a w hR hG N hN hf Q hQ=>q2 H id ρ a w hR hG (hf.sub (Nat.le_refl _) (hN (.norm,.c 1,s1) (by simp))) Q fun ρ' a' w' r1 r2=>hQ .norm s1 one_way ρ' a' w' r1 r2,norounds (fun c0=>by simp)⟩
   ·split at h
    ·rename_i s1 g1 h1
     injection h with h; injection h with e1 e2; subst e1; subst e2
     obtain ⟨q1,q2⟩ := evRegion_ok (O := O) (I := I) (X := X) (E := E) hcall hmix h1 (resS_wf hW)
     refine ⟨q1.good,os_one q1.of_res.sm,fun H ρ a w hR hG N hN hf Q hQ=>q2 H id ρ a w (resS_ok (q1.good H) hR) hG (hf.sub (Nat.le_refl _) (hN (.norm,.c 1,s1) (by simp))) Q fun ρ' a' w' r1 r2=>hQ .norm s1 one_way ρ' a' w' r1 r2.of_res,norounds (fun c0=>by simp)⟩
    ·cases h
  | seq x y =>
   simp only [evCode,evC_seq_eq,evC_join] at h
   split at h
   ·cases h
   ·rename_i oa g1 ha
    have A := IH x s g oa g1 hW ha
    split at h
    ·rename_i rest htk
     injection h with h; injection h with e1 e2; subst e1; subst e2
     refine ⟨A.good,A.os,fun H ρ a w hR hG N hN hf Q hQ=>wp_seq (A.run H ρ a w hR hG N hN hf _ fun k s' hw ρ' a' w' hR' hE=>?_),norounds (fun c0=>by simp)⟩
     have hk := hw.none htk
     have := hQ k s' hw ρ' a' w' hR' hE
     cases k with
     | norm=>exact absurd rfl hk
     | exit id=>exact this
     | ret=>exact this
    ·rename_i r s1 rest htk
     obtain ⟨u1,u2,u3,u4,u5⟩ := sub_takeK htk A.os.nodup
     have hs1 := A.os.sm _ u4
     split at h
     ·cases h
     ·rename_i ob g2 hb
      have B := IH y s1 g1 ob g2 (hs1.wf hW) hb
      obtain ⟨p1,p2,p3,p4,p5⟩ := seq_pack (I := I) (X := X) (E := E) htk A.os B.os h
      refine ⟨fun H=>A.good (B.good (p1 H)),p2,fun H=>does_pc fun hpc=>?_,norounds (fun c0=>by simp)⟩
      obtain ⟨v1,v2⟩ := p3 H hpc
      exact does_seq (Rc := (Code.seq x y).wp C.P) (fun Q a w hh=>wp_seq (wp_mono hh fun e a w hq=>by cases e <;> exact hq)) A.os.nodup htk hs1 B.os.ne B.os.sm (A.run (B.good (p1 H))) (fun _=>B.run (p1 H)) v1 v2 p4 p5
  | cond x a b =>
   simp only [evCode,evC_cond,evC_both] at h
   split at h
   ·rename_i r hx
    have hev : ∀ {ρ : Map} {ac : Act} {w : World},R O ρ E s ac w → GlobOk C ρ → ac.eval x = .bool (truth (r.val E)) := fun {ρ ac w} hR hG=>by
     have := evX_ok (x := x) (fun t _ sv hsv=>hR.tmp t sv hsv) hG (ev1_eq hx)
     exact this
    split at h
    ·rename_i n
     have A := IH (if truth n = true then a else b) s g o g' hW h
     refine ⟨A.good,A.os,fun H ρ ac w hR hG N hN hf Q hQ=>wp_cond (hev hR hG) ?_,norounds (fun c0=>by simp)⟩
     exact A.run H ρ ac w hR hG N hN hf Q hQ
    ·rename_i i
     rcases h1 : g.and s.pc (.e i) with ⟨p,g1⟩
     simp only [h1] at h
     split at h
     ·cases h
     ·rename_i oa g2 ha
      have A := IH a { s with pc := p } g1 oa g2 hW ha
      rcases h3 : g2.not (.e i) with ⟨nr,g3⟩
      simp only [h3] at h
      rcases h4 : g3.and s.pc nr with ⟨p',g4⟩
      simp only [h4] at h
      split at h
      ·cases h
      ·rename_i ob g5 hb
       have hTop : s.mem.nb ≤ topN s.mem.nb oa := topN_ge
       have B := IH b { s with pc := p',mem := ⟨s.mem.bs,topN s.mem.nb oa⟩ } g4 ob g5 (hW.more hTop) hb
       have Bsm : ∀ x ∈ ob,Sm s.mem x.2.2.mem := fun x hx=>(Sm.more hTop).trans (B.os.sm x hx)
       rcases hj : joinO (.e i) oa ob g5 with ⟨l,g6⟩
       simp only [hj] at h
       rcases hp : pcs s.pc l g6 with ⟨l2,g7⟩
       rw [hp] at h
       injection h with h; injection h with e1 e2; subst e1; subst e2
       obtain ⟨t1,t2,t3,t4,t5,t6,t7⟩ := joinO_ok (p := s.mem) (I := I) (X := X) (E := E) hj A.os.nodup B.os.nodup A.os.sm Bsm
       obtain ⟨k1,k2,k3,k3',k4⟩ := pcs_ok (I := I) (X := X) (E := E) hp
       have hn1 : ∀ x ∈ oa,∃ y ∈ l2,x.2.2.mem.nb ≤ y.2.2.mem.nb := fun x hx=>by
        obtain ⟨y,hy,e⟩ := t5 x hx
        obtain ⟨z,hz,e2⟩ := k3' y hy
        exact ⟨z,hz,by rw [← e2]; exact e⟩
       have hn2 : ∀ x ∈ ob,∃ y ∈ l2,x.2.2.mem.nb ≤ y.2.2.mem.nb := fun x hx=>by
        obtain ⟨y,hy,e⟩ := t6 x hx
        obtain ⟨z,hz,e2⟩ := k3' y hy
        exact ⟨z,hz,by rw [← e2]; exact e⟩
       refine ⟨fun H=>(and_ok h1 (A.good (not_ok h3 (and_ok h4 (B.good (t1 (k1 H)))).1).1)).1,⟨by rw [k2]; exact t2,?_,fun x hx=>?_⟩,fun H ρ ac w hR hG N hN hf Q hQ=>?_,norounds (fun c0=>by simp)⟩
       ·intro he
        subst he
        cases oa with
        | nil=>exact A.os.ne rfl
        | cons x oa =>
         obtain ⟨y,hy,_⟩ := hn1 x (by simp)
         cases hy
       ·obtain ⟨y,hy,e⟩ := k3 x hx
        rw [← e]; exact t4 y hy
       ·have H6 := k1 H
        have H5 := t1 H6
        have H4 := B.good H5
        obtain ⟨H3,hp'⟩ := and_ok h4 H4
        obtain ⟨H2,hnr⟩ := not_ok h3 H3
        have H1 := A.good H2
        obtain ⟨_,hpp⟩ := and_ok h1 H1
        obtain ⟨v1,v2⟩ := t7 H6
        have up := (k4 H).2 hR.pc
        refine wp_cond (hev hR hG) ?_
        cases hc : truth ((Ref.e i).val E)
        ·refine (((B.run H5).low (s := { s with pc := p' }) hW hTop).mono (o' := l2) (fun k s' hw=>?_) hn2) ρ ac w ⟨hR.size,hR.tmp,hR.defers,hR.mem,by simp only; rw [hp',hR.pc,hnr,hc]; rfl⟩ hG N hN hf Q hQ
         obtain ⟨z,hz,hfor⟩ := (v2 hc).1 k s' hw
         obtain ⟨y,hy,hf2⟩ := up k z hz
         exact ⟨y,hy,hfor.trans hf2⟩
        ·refine ((A.run H2).mono (o' := l2) (fun k s' hw=>?_) hn1) ρ ac w ⟨hR.size,hR.tmp,hR.defers,hR.mem,by simp only; rw [hpp,hR.pc,hc]; rfl⟩ hG N hN hf Q hQ
         obtain ⟨z,hz,hfor⟩ := (v1 hc).1 k s' hw
         obtain ⟨y,hy,hf2⟩ := up k z hz
         exact ⟨y,hy,hfor.trans hf2⟩
   ·cases h
  | block id c =>
   simp only [evCode,evC_block,evC_out] at h
   split at h
   ·cases h
   ·rename_i o1 g1 h1
    have A := IH c s g o1 g1 hW h1
    split at h
    ·rename_i rest htk
     injection h with h; injection h with e1 e2; subst e1; subst e2
     refine ⟨A.good,A.os,fun H ρ a w hR hG N hN hf Q hQ=>wp_block (A.run H ρ a w hR hG N hN hf _ fun k s' hw ρ' a' w' hR' hE=>?_),norounds (fun c0=>by simp)⟩
     have hk := hw.none htk
     have := hQ k s' hw ρ' a' w' hR' hE
     cases k with
     | norm=>exact this
     | exit id' =>
      show (if id' = id then Q .normal a' w' else Q (.exit id') a' w')
      rw [if_neg (fun e=>hk (by rw [e]))]
      exact this
     | ret=>exact this
    ·rename_i r s1 o2 htk
     obtain ⟨u1,u2,u3,u4,u5⟩ := sub_takeK htk A.os.nodup
     have hin : ∀ {o' : Outs} {Q : Exit → Act → World → Prop},(∀ s',Way E o1 (.exit id) s' → ∃ z,Way E o' .norm z ∧ For E s' z) → (∀ k s',k ≠ .exit id → Way E o1 k s' → ∃ z,Way E o' k z ∧ For E s' z) →
       (∀ x ∈ o1,∃ y ∈ o',x.2.2.mem.nb ≤ y.2.2.mem.nb) → Good I X E g1 → Does C O E s o' ((Code.block id c).wp C.P) := fun {o' Q0} w1 w2 hn H ρ a w hR hG N hN hf Q hQ =>
      wp_block (A.run H ρ a w hR hG N (fun x hx=>by obtain ⟨y,hy,e⟩ := hn x hx; have := hN y hy; omega) hf _ fun k s' hw ρ' a' w' hR' hE=>by
       by_cases hk : k = .exit id
       ·subst hk
        obtain ⟨z,hz,hfor⟩ := w1 s' hw
        have := hQ .norm z hz ρ' a' w' (hfor.r _ _ _ _ hR') (hE.up hfor.nb)
        show (if id = id then Q .normal a' w' else Q (.exit id) a' w')
        rw [if_pos rfl]
        exact this
       ·obtain ⟨z,hz,hfor⟩ := w2 k s' hk hw
        have := hQ k z hz ρ' a' w' (hfor.r _ _ _ _ hR') (hE.up hfor.nb)
        cases k with
        | norm=>exact this
        | exit id' =>
         show (if id' = id then Q .normal a' w' else Q (.exit id') a' w')
         rw [if_neg (fun e=>hk (by rw [e]))]
         exact this
        | ret=>exact this)
     split at h
     ·rename_i o3 htk2
      injection h with h; injection h with e1 e2; subst e1; subst e2
      obtain ⟨_,hnk⟩ := takeK_none htk2
      refine ⟨A.good,⟨?_,by simp,fun x hx=>?_⟩,fun H=>hin (Q := fun _ _ _=>True) (fun s' hw=>?_) (fun k s' hk hw=>?_) (fun x hx=>?_) H,norounds (fun c0=>by simp)⟩
      ·simp only [kinds,List.map_cons,List.nodup_cons]
       exact ⟨fun hk=>by obtain ⟨x,hx,e⟩ := List.mem_map.1 hk; exact hnk x hx e,u1⟩
      ·rcases List.mem_cons.1 hx with rfl | hx
       ·exact A.os.sm (.exit id,r,s1) u4
       ·exact A.os.sm x (u3 x hx)
      ·rcases hw.split htk A.os.nodup with ⟨_,rfl,hr,hoth⟩ | ⟨hk,_,_⟩
       ·exact ⟨s',⟨[],r,o2,rfl,hr,fun x hx=>hoth x (by simpa using hx)⟩,For.rfl'⟩
       ·exact absurd rfl hk
      ·rcases hw.split htk A.os.nodup with ⟨hk2,_⟩ | ⟨_,hr,pre,r2,post,e,hr2,ho⟩
       ·exact absurd hk2 hk
       ·refine ⟨s',⟨(.norm,r,s1) :: pre,r2,post,by rw [e]; rfl,hr2,fun x hx=>?_⟩,For.rfl'⟩
        simp only [List.cons_append,List.mem_cons] at hx
        rcases hx with rfl | hx
        ·exact hr
        ·exact ho x hx
      ·rcases u5 x hx with rfl | hx
       ·exact ⟨_,List.mem_cons_self,Nat.le_refl _⟩
       ·exact ⟨x,List.mem_cons_of_mem _ hx,Nat.le_refl _⟩
     ·rename_i r' s2 o3 htk2
      obtain ⟨y1,y2,y3,y4,y5⟩ := sub_takeK htk2 u1
      rcases ho : g1.or r r' with ⟨q,g2⟩
      simp only [ho] at h
      rcases hj : joinLo r s1 s2 g2 with ⟨z,g3⟩
      simp only [hj] at h
      rcases hp : pcs s.pc ((.norm,q,z) :: o3) g3 with ⟨l,g4⟩
      rw [hp] at h
      injection h with h; injection h with e1 e2; subst e1; subst e2
      obtain ⟨k1,k2,k3,k3',k4⟩ := pcs_ok (I := I) (X := X) (E := E) hp
      obtain ⟨z1,z2,z3⟩ := joinLo_sm hj (A.os.sm _ u4) (A.os.sm _ (u3 _ y4))
      refine ⟨fun H=>A.good (or_ok ho (joinLo_ok hj (k1 H)).1).1,⟨?_,?_,fun x hx=>?_⟩,fun H=>does_pc fun hpc=>hin (Q := fun _ _ _=>True) (fun s' hw=>?_) (fun k s' hk hw=>?_) (fun x hx=>?_) (or_ok ho (joinLo_ok hj (k1 H)).1).1,norounds (fun c0=>by simp)⟩
      ·rw [k2]
       simp only [kinds,List.map_cons,List.nodup_cons]
       exact ⟨y2,y1⟩
      ·intro he
       subst he
       obtain ⟨x,hx,_⟩ := k3' (.norm,q,z) (by simp)
       cases hx
      ·obtain ⟨y,hy,e⟩ := k3 x hx
       rw [← e]
       rcases List.mem_cons.1 hy with rfl | hy
       ·exact z1
       ·exact A.os.sm y (u3 y (y3 y hy))
      ·obtain ⟨H2,hq⟩ := or_ok ho (joinLo_ok hj (k1 H)).1
       have up := (k4 H).2 hpc
       rcases hw.split htk A.os.nodup with ⟨_,rfl,hr,hoth⟩ | ⟨hk,_,_⟩
       ·have hw2 : Way E ((.norm,q,z) :: o3) .norm z := ⟨[],q,o3,rfl,by rw [hq,hr]; rfl,fun x hx=>hoth x (y3 x (by simpa using hx))⟩
        obtain ⟨y,hy,hf⟩ := up .norm z hw2
        exact ⟨y,hy,((joinLo_for hj (k1 H)).1 hr).trans hf⟩
       ·exact absurd rfl hk
      ·obtain ⟨H2,hq⟩ := or_ok ho (joinLo_ok hj (k1 H)).1
       have up := (k4 H).2 hpc
       rcases hw.split htk A.os.nodup with ⟨hk2,_⟩ | ⟨_,hr,hw⟩
       ·exact absurd hk2 hk
       ·rcases hw.split htk2 u1 with ⟨rfl,rfl,hr',hoth⟩ | ⟨hkn,hr',pre,r2,post,e,hr2,ho2⟩
        ·have hw2 : Way E ((.norm,q,z) :: o3) .norm z := ⟨[],q,o3,rfl,by rw [hq,hr,hr']; rfl,fun x hx=>hoth x (by simpa using hx)⟩
         obtain ⟨y,hy,hf⟩ := up .norm z hw2
         exact ⟨y,hy,((joinLo_for hj (k1 H)).2 hr).trans hf⟩
        ·have hw2 : Way E ((.norm,q,z) :: o3) k s' := by
          refine ⟨(.norm,q,z) :: pre,r2,post,by rw [e]; rfl,hr2,fun x hx=>?_⟩
          simp only [List.cons_append,List.mem_cons] at hx
          rcases hx with rfl | hx
          ·simp only; rw [hq,hr,hr']; rfl
          ·exact ho2 x hx
         exact up k s' hw2
      ·have main : ∃ y ∈ ((.norm,q,z) :: o3 : Outs),x.2.2.mem.nb ≤ y.2.2.mem.nb := by
        rcases u5 x hx with rfl | hx
        ·exact ⟨_,List.mem_cons_self,z2⟩
        ·rcases y5 x hx with rfl | hx
         ·exact ⟨_,List.mem_cons_self,z3⟩
         ·exact ⟨x,List.mem_cons_of_mem _ hx,Nat.le_refl _⟩
       obtain ⟨y,hy,e⟩ := main
       obtain ⟨x2,hx2,e2⟩ := k3' y hy
       exact ⟨x2,hx2,by rw [← e2]; exact e⟩
  | loop c =>
   have core : ∀ {s : Lo} {g : Gl},WF s.mem → evC_loop (evCode C call f) c s g = some (o,g') → (Good I X E g' → Good I X E g) ∧ Os s.mem o ∧ (Good I X E g' → Does C O E s o (fun Q=>Code.rounds C.P c Q (f + 1))) := by
    intro s g hW h
    simp only [evC_loop_eq,evC_join] at h
    split at h
    ·cases h
    ·rename_i oa g1 ha
     have A := IH c s g oa g1 hW ha
     split at h
     ·rename_i rest htk
      injection h with h; injection h with e1 e2; subst e1; subst e2
      refine ⟨A.good,A.os,fun H ρ a w hR hG N hN hf Q hQ=>A.run H ρ a w hR hG N hN hf _ fun k s' hw ρ' a' w' hR' hE=>?_⟩
      have hk := hw.none htk
      have := hQ k s' hw ρ' a' w' hR' hE
      cases k with
      | norm=>exact absurd rfl hk
      | exit id=>exact this
      | ret=>exact this
     ·rename_i r s1 rest htk
      obtain ⟨u1,u2,u3,u4,u5⟩ := sub_takeK htk A.os.nodup
      have hs1 := A.os.sm _ u4
      split at h
      ·rename_i hz
       have hr0 : truth (r.val E) = false := by
        unfold isLit0 at hz
        split at hz
        ·rfl
        ·cases hz
       split at h
       ·cases h
       ·rename_i hne
        injection h with h; injection h with e1 e2; subst e1; subst e2
        obtain ⟨b1,b2,b3,b4⟩ := bumpO_ok (E := E) s1.mem.nb rest
        refine ⟨A.good,⟨by rw [b1]; exact u1,fun e=>hne (by
         cases rest with
         | nil=>rfl
         | cons x l=>obtain ⟨y,hy,_⟩ := b3 x (by simp); rw [e] at hy; cases hy),fun x hx=>?_⟩,fun H ρ a w hR hG N hN hf Q hQ=>?_⟩
        ·obtain ⟨y,hy,e1,e2⟩ := b2 x hx
         have := A.os.sm y (u3 y hy)
         refine ⟨by rw [e2]; have := this.nb; omega,fun b hb=>?_,fun hW=>⟨by rw [e1]; exact (this.wf hW).1,fun b hb=>?_⟩⟩
         ·rw [e1] at hb
          rcases this.ids b hb with h | h
          ·exact .inl h
          ·exact .inr ⟨h.1,by rw [e2]; omega⟩
         ·rw [e1] at hb
          have := (this.wf hW).2 b hb
          rw [e2]; omega
        ·have hr1 : ∃ x ∈ bumpO s1.mem.nb rest,s1.mem.nb ≤ x.2.2.mem.nb := by
          cases rest with
          | nil=>exact absurd rfl hne
          | cons x l =>
           obtain ⟨y,hy,h1,h2⟩ := b3 x (by simp)
           exact ⟨y,hy,h2⟩
         refine A.run H ρ a w hR hG N (fun x hx=>?_) hf _ fun k s' hw ρ' a' w' hR' hE=>?_
         ·rcases u5 x hx with rfl | hx
          ·obtain ⟨y,hy,e⟩ := hr1
           have := hN y hy
           simp only; omega
          ·obtain ⟨y,hy,h1,h2⟩ := b3 x hx
           have := hN y hy
           omega
         ·rcases hw.split htk A.os.nodup with ⟨_,_,hr,_⟩ | ⟨hk,_,hw⟩
          ·rw [hr0] at hr; cases hr
          ·obtain ⟨z,hz,hfor⟩ := b4 k s' hw
           have := hQ k z hz ρ' a' w' (hfor.r _ _ _ _ hR') (hE.up hfor.nb)
           cases k with
           | norm=>exact absurd rfl hk
           | exit id=>exact this
           | ret=>exact this
      ·split at h
       ·cases h
       ·rename_i ob g2 hb
        have B := IH (.loop c) s1 g1 ob g2 (hs1.wf hW) hb
        obtain ⟨p1,p2,p3,p4,p5⟩ := seq_pack (I := I) (X := X) (E := E) htk A.os B.os h
        refine ⟨fun H=>A.good (B.good (p1 H)),p2,fun H=>does_pc fun hpc=>?_⟩
        obtain ⟨v1,v2⟩ := p3 H hpc
        exact does_seq (Rc := fun Q=>Code.rounds C.P c Q (f + 1)) (fun Q a w hh=>wp_mono hh fun e a w hq=>by cases e <;> exact hq) A.os.nodup htk hs1 B.os.ne B.os.sm (A.run (B.good (p1 H))) (fun _=>B.rounds (p1 H) c rfl) v1 v2 p4 p5
   simp only [evCode] at h
   have core1 := core (mgS_sm.wf hW) h
   have core : (Good I X E g' → Good I X E g) ∧ Os s.mem o ∧ (Good I X E g' → Does C O E s o (fun Q=>Code.rounds C.P c Q (f + 1))) :=
    ⟨fun H=>(mgS_ok (O := O) (ρ := fun _=>none) (w := default)).2.2.1.good (core1.1 H),core1.2.1.mg,fun H=>(core1.2.2 H).mg (core1.1 H) hW core1.2.1⟩
   refine ⟨core.1,core.2.1,fun H ρ a w hR hG N hN hf Q hQ=>wp_loop_rounds (f + 1) (core.2.2 H ρ a w hR hG N hN hf Q hQ),fun H c0 hc=>?_⟩
   injection hc with hc
   subst hc
   exact core.2.2 H
  | scope c =>
   simp only [evCode] at h
   have A := IH c s g o g' hW h
   refine ⟨A.good,A.os,fun H ρ a w hR hG N hN hf Q hQ=>wp_scope_straight (A.run H ρ a w hR hG N hN hf _ fun k s' hw ρ' a' w' hR' hE=>?_),norounds (fun c0=>by simp)⟩
   have := hQ k s' hw ρ' a' w' hR' hE
   cases k <;> exact this
  | rangeFunc x y z t=>simp [evCode] at h
  | goto l=>simp [evCode] at h
  | refuse wh=>simp [evCode] at h
end
section
variable {O : Objs} {I : Nat → Int} {X : Nat → List Int → Int} {ρ ρ' : Map} {E : Nat → Int} {w w' : World} {m m' m1 m2 : Mem} {g g' : Gl} {C : Cx} [TyOk C.P C.T] {call : CallF}
def CtrOk (C : Cx) (O : Objs) (I : Nat → Int) (X : Nat → List Int → Int) (E : Nat → Int) (f : FuncId) (c : Ctr) : Prop :=
 ∀ args m pc g v m' g',c.run args m pc g = some (v,m',g') → (∃ fn b,C.P.funcs[f]? = some fn ∧ fn.body = some b) ∧ (WF m → St I X E g g' m m') ∧
  (Good I X E g' → ∀ ρ vs w,satVs ρ E args vs → GlobOk C ρ → M O ρ E m.bs w → WF m → truth (pc.val E) = true → Fresh ρ m.nb m'.nb →
   Calls C.P f vs.toArray w fun e w'=>∃ ρ' u,e = .returned u ∧ v.sat ρ' E u ∧ M O ρ' E m'.bs w' ∧ Ext ρ ρ' m m' w w')
theorem oneWay_ok {empty : Bool} {o : Outs} {s : Lo} {m : Mem} (h : oneWay empty o g = some (s,g')) (ho : Os m o) : (Good I X E g' → Good I X E g) ∧ Sm m s.mem ∧ (∀ x ∈ o,x.2.2.mem.nb ≤ s.mem.nb) ∧
  (Good I X E g' → ∀ k s',Way E o k s' → For E s' s ∧ (k = .ret ∨ k = .norm)) := by
 have two : ∀ {k1 k2 : Kd} {r1 r2 : Ref} {s1 s2 : Lo},o = [(k1,r1,s1),(k2,r2,s2)] → joinLo r1 s1 s2 g = (s,g') → (k1 = .ret ∨ k1 = .norm) → (k2 = .ret ∨ k2 = .norm) → (Good I X E g' → Good I X E g) ∧ Sm m s.mem ∧ (∀ x ∈ o,x.2.2.mem.nb ≤ s.mem.nb) ∧
   (Good I X E g' → ∀ k s',Way E o k s' → For E s' s ∧ (k = .ret ∨ k = .norm)) := fun {k1 k2 r1 r2 s1 s2} e hj hk1 hk2=>by
  subst e
  obtain ⟨z1,z2,z3⟩ := joinLo_sm hj (ho.sm (k1,r1,s1) (by simp)) (ho.sm (k2,r2,s2) (by simp))
  refine ⟨fun H=>(joinLo_ok hj H).1,z1,fun x hx=>?_,fun H k s' hw=>?_⟩
  ·simp only [List.mem_cons,List.not_mem_nil,or_false] at hx
   rcases hx with rfl | rfl
   ·exact z2
   ·exact z3
  ·obtain ⟨f1,f2⟩ := joinLo_for hj H
   obtain ⟨pre,r,post,e,hr,hoth⟩ := hw
   cases pre with
   | nil =>
    simp only [List.nil_append,List.cons.injEq,Prod.mk.injEq] at e
    obtain ⟨⟨rfl,rfl,rfl⟩,rfl⟩ := e
    exact ⟨f1 hr,hk1⟩
   | cons y pre =>
    simp only [List.cons_append,List.cons.injEq] at e
    obtain ⟨rfl,e⟩ := e
    cases pre with
    | nil =>
     simp only [List.nil_append,List.cons.injEq,Prod.mk.injEq] at e
     obtain ⟨⟨rfl,rfl,rfl⟩,rfl⟩ := e
     exact ⟨f2 (hoth (k1,r1,s1) (by simp)),hk2⟩
    | cons z pre =>
     simp only [List.cons_append,List.cons.injEq] at e
     have := congrArg List.length e.2
     simp at this
 have one : ∀ {k1 : Kd} {r1 : Ref},o = [(k1,r1,s)] → g = g' → (k1 = .ret ∨ k1 = .norm) → (Good I X E g' → Good I X E g) ∧ Sm m s.mem ∧ (∀ x ∈ o,x.2.2.mem.nb ≤ s.mem.nb) ∧
   (Good I X E g' → ∀ k s',Way E o k s' → For E s' s ∧ (k = .ret ∨ k = .norm)) := fun {k1 r1} e eg hk=>by
  subst e; subst eg
  refine ⟨fun H=>H,ho.sm (k1,r1,s) (by simp),fun x hx=>by rw [List.mem_singleton] at hx; subst hx; exact Nat.le_refl _,fun H k s' hw=>?_⟩
  obtain ⟨r,hm,_⟩ := hw.mem
  simp only [List.mem_singleton,Prod.mk.injEq] at hm
  obtain ⟨rfl,_,rfl⟩ := hm
  exact ⟨For.rfl',hk⟩
 unfold oneWay at h
 split at h
 ·injection h with h; injection h with e1 e2; subst e1
  exact one rfl e2 (.inl rfl)
 ·split at h
  ·injection h with h; injection h with e1 e2; subst e1
   exact one rfl e2 (.inr rfl)
  ·cases h
 ·split at h
  ·injection h with h
   exact two rfl h (.inl rfl) (.inr rfl)
  ·cases h
 ·split at h
  ·injection h with h
   exact two rfl h (.inr rfl) (.inl rfl)
  ·cases h
 ·cases h
def resOf (tmps : Array Value) : ResultVar → Go.Sem Value
 | .tmp t=>pure (tmps.getD t undef)
 | .cell c t=>do loadVar t (← asAddr (tmps.getD c undef))
theorem evRes_ok {s : Lo} {a : Act} (hR : R O ρ E s a w) : ∀ {l : List ResultVar} {vs : List SA},evRes C s l = some vs → ∃ us : List Value,(l.mapM (resOf a.tmps)).run C.P w = .ok us w ∧ satA ρ E vs us ∧ us.length = vs.length
 | [],vs,h=>by
  obtain rfl : [] = vs := by simpa [evRes] using h
  exact ⟨[],by simp,trivial,rfl⟩
 | .tmp t :: l,vs,h=>by
  simp only [evRes] at h
  split at h
  ·rename_i v hv
   obtain ⟨ks,hk,rfl⟩ := mapv h
   obtain ⟨us,r1,r2,r3⟩ := evRes_ok hR hk
   refine ⟨a.tmps.getD t undef :: us,?_,⟨hR.tmp t _ hv,r2⟩,by simp [r3]⟩
   simp only [List.mapM_cons,resOf,Sem.run_bind,Sem.run_pure,Result.andThen_ok,r1]
  ·cases h
 | .cell c t :: l,vs,h=>by
  simp only [evRes] at h
  split at h
  ·rename_i id off hv
   split at h
   ·rename_i b hb
    obtain ⟨h1,h2,h3⟩ := getB_ok hb
    split at h
    ·rename_i v hp
     obtain ⟨ks,hk,rfl⟩ := mapv h
     obtain ⟨us,r1,r2,r3⟩ := evRes_ok hR hk
     obtain ⟨L,hL,e⟩ := hR.tmp c _ hv
     obtain ⟨L',bv,k1,k2,k3,k4,bt5,k5,kty⟩ := hR.mem.plain h1 h3
     rw [h2,hL] at k1
     obtain rfl : L = L' := by injection k1
     obtain ⟨u,hu,hz⟩ := load_ok (P := C.P) hp k2 k5
     refine ⟨u :: us,?_,⟨hz,r2⟩,by simp [r3]⟩
     simp only [List.mapM_cons,resOf,Sem.run_bind,Sem.run_pure,Result.andThen_ok,e,asAddr,hu,r1]
    ·cases h
   ·cases h
  ·cases h
theorem evFn_ok [FnOk C.P C.F] (hmix : C.P.follows .mixedOrders = true) (hname : ∀ (f : FuncId) (fn : Func),C.P.funcs[f]? = some fn → fn.name ≠ "runtime.NumGoroutine") (hctr : ∀ f c,C.ctr f = some c → CtrOk C O I X E f c) (fuel : Nat) :
  ∀ d,CallOk C O I X E (evFn C d fuel)
 | 0,f,args,m,pc,g,v,m',g',h=>by simp [evFn] at h
 | d + 1,f,args,m,pc,g,v,m',g',h=>by
  have IH := evFn_ok hmix hname hctr fuel d
  simp only [evFn] at h
  split at h
  ·rename_i c hc
   obtain ⟨⟨fn,b,h1,h2⟩,h3,h4⟩ := hctr f c hc args m pc g v m' g' h
   exact ⟨⟨fn,b,h1,h2,hname f fn h1⟩,h3,fun H ρ vs w hs hG hM hW hp hf=>h4 H ρ vs w hs hG hM hW hp hf⟩
  ·split at h
   ·cases h
   ·rename_i fn hfn
    split at h
    ·cases h
    ·rename_i c hbody
     split at h
     ·rename_i hlen
      split at h
      ·rename_i o g1 hcode
       split at h
       ·rename_i s' g2 hone
        have fin : ∃ vs,evRes C s' fn.results.toList = some vs ∧ m' = s'.mem ∧ g' = g2 ∧ (∀ ρ us,satA ρ E vs us → v.sat ρ E (if h : us.toArray.size = 1 then us.toArray[0] else .tuple us.toArray)) := by
         split at h
         ·rename_i x hres
          injection h with h; injection h with e1 e; injection e with e2 e3; subst e1; subst e2; subst e3
          refine ⟨[x],hres,rfl,rfl,fun ρ us hs=>?_⟩
          cases us with
          | nil=>exact hs.elim
          | cons u us =>
           cases us with
           | cons _ _=>exact hs.2.elim
           | nil=>exact hs.1
         ·rename_i vs hne hres
          injection h with h; injection h with e1 e; injection e with e2 e3; subst e1; subst e2; subst e3
          refine ⟨vs,hres,rfl,rfl,fun ρ us hs=>?_⟩
          have hl : ∀ {vs : List SA} {us : List Value},satA ρ E vs us → vs.length = us.length := by
           intro vs
           induction vs with
           | nil=>intro us h; cases us with
            | nil=>rfl
            | cons _ _=>exact h.elim
           | cons x vs ih=>intro us h; cases us with
            | nil=>exact h.elim
            | cons u us=>simp only [List.length_cons]; rw [ih h.2]
          have hu : us.toArray.size ≠ 1 := fun e=>by
           have e1 : us.length = 1 := by simpa using e
           have e2 := hl hs
           obtain ⟨y,hy⟩ := List.length_eq_one_iff.1 (e2.trans e1)
           exact hne y (by rw [hy])
          rw [dif_neg hu]
          exact ⟨us,rfl,hs⟩
         ·cases h
        obtain ⟨rvs,hres,rfl,rfl,hval⟩ := fin
        replace hfn := FnOk.ok (P := C.P) f fn hfn
        refine ⟨⟨fn,c,hfn,hbody,hname f fn hfn⟩,?_⟩
        have hcd : WF m → CodeOk C O I X E fuel c ⟨args ++ List.replicate (fn.ntmps - args.length) (.a (.one .junk)),m,pc⟩ g o g1 := fun hW=>evCode_ok IH hmix fuel c _ g o g1 hW hcode
        refine ⟨fun hW=>?_,fun H ρ vs w hs hG hM hW hp hf=>?_⟩
        ·obtain ⟨k1,k2,_,_⟩ := oneWay_ok (I := I) (X := X) (E := E) hone (hcd hW).os
         exact k2.st fun H=>(hcd hW).good (k1 H)
        ·obtain ⟨k1,k2,k3,k4⟩ := oneWay_ok (I := I) (X := X) (E := E) hone (hcd hW).os
         have hvl := satVs_len hs
         refine calls_of_wp hfn hbody ((hcd hW).run (k1 H) ρ _ w ⟨?_,fun i x hx=>?_,rfl,hM,hp⟩ hG s'.mem.nb k3 hf _ fun k s2 hw ρ' a' w' hR' hE=>?_)
         ·simp; omega
         ·rcases Nat.lt_or_ge i args.length with hi | hi
          ·rw [List.getElem?_append_left hi] at hx
           obtain ⟨u,hu,hsat⟩ := satVs_get hs hx
           have hiv : i < vs.length := by omega
           have : (vs.toArray ++ Array.replicate (fn.ntmps - vs.toArray.size) undef).getD i undef = u := by
            rw [Array.getD_eq_getD_getElem?,Array.getElem?_append_left (by simpa using hiv)]
            simp [hu]
           rw [this]; exact hsat
          ·rw [List.getElem?_append_right hi] at hx
           have := List.mem_of_getElem? hx
           rw [List.mem_replicate] at this
           rw [this.2]; trivial
         ·obtain ⟨hfor,hk⟩ := k4 H k s2 hw
          have hR2 := hfor.r _ _ _ _ hR'
          obtain ⟨us,r1,r2,r3⟩ := evRes_ok hR2 hres
          have hres2 : (results fn a'.tmps).run C.P w' = .ok (if h : us.toArray.size = 1 then us.toArray[0] else .tuple us.toArray) w' := by
           have e1 : results fn a'.tmps = (do let vs ← fn.results.mapM (resOf a'.tmps); pure (if h : vs.size = 1 then vs[0] else .tuple vs)) := by
            have e2 : (fun x : ResultVar=>resOf a'.tmps x) = resOf a'.tmps := rfl
            unfold results
            congr 2
           rw [e1,Array.mapM_eq_mapM_toList]
           simp only [Sem.run_bind,Sem.run_map,r1,Result.andThen_ok,Sem.run_pure]
          have post : a'.defers = [] ∧ ∃ v',(results fn a'.tmps).run C.P w' = .ok v' w' ∧ ∃ ρ' u,Ending.returned v' = .returned u ∧ v.sat ρ' E u ∧ M O ρ' E s'.mem.bs w' ∧ Ext ρ ρ' m s'.mem w w' :=
           ⟨hR2.defers,_,hres2,ρ',_,rfl,hval ρ' us r2,hR2.mem,hE.up hfor.nb⟩
          rcases hk with rfl | rfl
          ·exact post
          ·exact post
       ·cases h
      ·cases h
     ·cases h
end
def Ref.ok (n : Nat) : Ref → Bool
 | .c _=>true
 | .e i=>decide (i < n)
def Df.refs : Df → List Ref
 | .inp _=>[]
 | .bin _ _ x y | .and x y | .or x y | .eqb x y | .mn x y | .mx x y=>[x,y]
 | .wrap _ x | .not x=>[x]
 | .ite c x y=>[c,x,y]
 | .sel xs i=>i :: xs
 | .fn _ _ _ xs=>xs
def wfDefs : Nat → List Df → Bool
 | n + 1,d :: ds=>d.refs.all (Ref.ok n) && wfDefs n ds
 | 0,[]=>true
 | _,_=>false
section
variable (I : Nat → Int) (X : Nat → List Int → Int)
def runDefs : List Df → Nat → Int
 | []=>fun _=>0
 | d :: ds=>fun i=>if i = ds.length then d.den I X (runDefs ds) else runDefs ds i
end
section
variable {I : Nat → Int} {X : Nat → List Int → Int} {E E' : Nat → Int}
theorem ref_congr {n : Nat} (h : ∀ i,i < n → E i = E' i) {r : Ref} (hr : r.ok n = true) : r.val E = r.val E' := by
 cases r with
 | c _=>rfl
 | e i=>exact h i (by simpa [Ref.ok] using hr)
theorem den_congr {n : Nat} (h : ∀ i,i < n → E i = E' i) {d : Df} (hd : d.refs.all (Ref.ok n) = true) : d.den I X E = d.den I X E' := by
 cases d <;> simp only [Df.refs,List.all_cons,List.all_nil,Bool.and_true,Bool.and_eq_true] at hd <;> simp only [Df.den]
 case bin o k x y=>rw [ref_congr h hd.1,ref_congr h hd.2]
 case wrap k x=>rw [ref_congr h hd]
 case not x=>rw [ref_congr h hd]
 case and x y=>rw [ref_congr h hd.1,ref_congr h hd.2]
 case or x y=>rw [ref_congr h hd.1,ref_congr h hd.2]
 case eqb x y=>rw [ref_congr h hd.1,ref_congr h hd.2]
 case ite c x y=>rw [ref_congr h hd.1,ref_congr h hd.2.1,ref_congr h hd.2.2]
 case sel xs i =>
  rw [ref_congr h hd.1]
  have : ∀ j,(xs.getD j (.c 0)).val E = (xs.getD j (.c 0)).val E' := fun j=>by
   rw [List.getD_eq_getElem?_getD]
   cases hj : xs[j]? with
   | none=>rfl
   | some r=>exact ref_congr h (List.all_eq_true.1 hd.2 r (List.mem_of_getElem? hj))
  exact this _
 case mn x y=>rw [ref_congr h hd.1,ref_congr h hd.2]
 case mx x y=>rw [ref_congr h hd.1,ref_congr h hd.2]
 case fn F lo hi xs =>
  congr 2
  exact List.map_congr_left fun r hr=>ref_congr h (List.all_eq_true.1 hd r hr)
theorem wfDefs_len : ∀ {n : Nat} {ds : List Df},wfDefs n ds = true → ds.length = n
 | 0,[],_=>rfl
 | n + 1,d :: ds,h=>by
  simp only [wfDefs,Bool.and_eq_true] at h
  rw [List.length_cons,wfDefs_len h.2]
 | 0,_ :: _,h=>by cases h
 | _ + 1,[],h=>by cases h
theorem goodL_congr : ∀ {n : Nat} {ds : List Df},wfDefs n ds = true → (∀ i,i < n → E i = E' i) → GoodL I X E n ds → GoodL I X E' n ds
 | 0,[],_,_,_=>trivial
 | n + 1,d :: ds,h,hE,hg=>by
  simp only [wfDefs,Bool.and_eq_true] at h
  refine ⟨?_,goodL_congr h.2 (fun i hi=>hE i (by omega)) hg.2⟩
  rw [← hE n (by omega),hg.1]
  exact den_congr (fun i hi=>hE i (by omega)) h.1
 | 0,_ :: _,h,_,_=>by cases h
 | _ + 1,[],h,_,_=>by cases h
theorem runDefs_good : ∀ {n : Nat} {ds : List Df},wfDefs n ds = true → GoodL I X (runDefs I X ds) n ds
 | 0,[],_=>trivial
 | n + 1,d :: ds,h=>by
  simp only [wfDefs,Bool.and_eq_true] at h
  have hl := wfDefs_len h.2
  have hold : ∀ i,i < n → runDefs I X ds i = runDefs I X (d :: ds) i := fun i hi=>by
   simp only [runDefs]
   rw [if_neg (by omega)]
  refine ⟨?_,goodL_congr h.2 hold (runDefs_good h.2)⟩
  have : runDefs I X (d :: ds) n = d.den I X (runDefs I X ds) := by
   simp only [runDefs]
   rw [if_pos hl.symm]
  rw [this]
  exact den_congr hold h.1
 | 0,_ :: _,h=>by cases h
 | _ + 1,[],h=>by cases h
theorem good_uniq : ∀ {n : Nat} {ds : List Df},wfDefs n ds = true → GoodL I X E n ds → GoodL I X E' n ds → ∀ i,i < n → E i = E' i
 | 0,[],_,_,_,i,hi=>by omega
 | n + 1,d :: ds,h,h1,h2,i,hi=>by
  simp only [wfDefs,Bool.and_eq_true] at h
  have ih := good_uniq h.2 h1.2 h2.2
  rcases Nat.lt_or_ge i n with hin | hin
  ·exact ih i hin
  ·have : i = n := by omega
   subst this
   rw [h1.1,h2.1]
   exact den_congr ih h.1
 | 0,_ :: _,h,_,_,_,_=>by cases h
 | _ + 1,[],h,_,_,_,_=>by cases h
end
def inps (k : Nat) : Gl := ⟨(List.range k).reverse.map Df.inp,k,[]⟩
theorem inps_good {I : Nat → Int} {X : Nat → List Int → Int} {E : Nat → Int} : ∀ {k : Nat},Good I X E (inps k) → ∀ i,i < k → E i = I i
 | 0,_,i,hi=>by omega
 | k + 1,h,i,hi=>by
  have e : (inps (k + 1)).defs = .inp k :: (inps k).defs := by simp [inps,List.range_succ]
  have h1 := h.1
  rw [e] at h1
  rcases Nat.lt_or_ge i k with hk | hk
  ·exact inps_good (k := k) ⟨h1.2,fun p hp=>by cases hp⟩ i hk
  ·have : i = k := by omega
   subst this
   exact h1.1
def matchL : Leaf → Leaf → Option (List (Nat × Ref))
 | .int k p,.int k' r=>if k = k' then (match p with
  | .e i=>some [(i,r)]
  | .c n=>if r = .c n then some [] else none) else none
 | .bool p,.bool r=>match p with
  | .e i=>some [(i,r)]
  | .c n=>if r = .c n then some [] else none
 | .nilI,.nilI=>some []
 | .nilP,.nilP=>some []
 | .nilS,.nilS=>some []
 | .nilF,.nilF=>some []
 | .junk,_=>some []
 | _,_=>none
def matchLs : List Leaf → List Leaf → Option (List (Nat × Ref))
 | [],[]=>some []
 | p :: ps,l :: ls=>match matchL p l with
  | some a=>match matchLs ps ls with
   | some b=>some (a ++ b)
   | none=>none
  | none=>none
 | _,_=>none
def matchV : SV → SV → Option (List (Nat × Ref))
 | .a (.one p),.a (.one l)=>matchL p l
 | .a (.agg ps),.a (.agg ls)=>matchLs ps ls
 | _,_=>none
def matchVs : List SV → List SV → Option (List (Nat × Ref))
 | [],[]=>some []
 | p :: ps,l :: ls=>match matchV p l with
  | some a=>match matchVs ps ls with
   | some b=>some (a ++ b)
   | none=>none
  | none=>none
 | _,_=>none
section
variable {ρ ρ' : Map} {E Ep : Nat → Int}
theorem matchL_ok {p l : Leaf} {a : List (Nat × Ref)} (h : matchL p l = some a) (ha : ∀ x ∈ a,Ep x.1 = x.2.val E) {v : Value} (hv : l.sat ρ E v) : p.sat ρ' Ep v := by
 unfold matchL at h
 split at h
 ·rename_i k p k' r
  split at h
  ·rename_i hk; subst hk
   simp only [Leaf.sat] at hv ⊢
   split at h
   ·rename_i i
    injection h with h; subst h
    have : Ep i = r.val E := ha (i,r) (by simp)
    rw [hv,← this]; rfl
   ·rename_i n
    split at h
    ·rename_i hr
     rw [hv,hr]; rfl
    ·cases h
  ·cases h
 ·rename_i p r
  simp only [Leaf.sat] at hv ⊢
  split at h
  ·rename_i i
   injection h with h; subst h
   have : Ep i = r.val E := ha (i,r) (by simp)
   rw [hv,← this]; rfl
  ·rename_i n
   split at h
   ·rename_i hr
    rw [hv,hr]; rfl
   ·cases h
 ·exact hv
 ·exact hv
 ·exact hv
 ·exact hv
 ·trivial
 ·cases h
theorem matchLs_ok : ∀ {ps ls : List Leaf} {a : List (Nat × Ref)},matchLs ps ls = some a → (∀ x ∈ a,Ep x.1 = x.2.val E) → ps.length = ls.length ∧ ∀ {vs : List Value},sats ρ E ls vs → sats ρ' Ep ps vs
 | [],[],_,_,_=>⟨rfl,fun _=>trivial⟩
 | p :: ps,l :: ls,a,h,ha=>by
  simp only [matchLs] at h
  split at h
  ·rename_i x hx
   split at h
   ·rename_i y hy
    injection h with h; subst h
    obtain ⟨k1,k2⟩ := matchLs_ok hy fun z hz=>ha z (List.mem_append_right _ hz)
    refine ⟨by simp [k1],fun {vs} hs=>?_⟩
    cases vs with
    | nil=>exact hs.elim
    | cons v vs=>exact ⟨matchL_ok hx (fun z hz=>ha z (List.mem_append_left _ hz)) hs.1,k2 hs.2⟩
   ·cases h
  ·cases h
 | [],_ :: _,_,h,_=>by cases h
 | _ :: _,[],_,h,_=>by cases h
theorem matchV_ok {p l : SV} {a : List (Nat × Ref)} (h : matchV p l = some a) (ha : ∀ x ∈ a,Ep x.1 = x.2.val E) {v : Value} (hv : l.sat ρ E v) : p.sat ρ' Ep v := by
 unfold matchV at h
 split at h
 ·exact matchL_ok h ha hv
 ·obtain ⟨k1,k2⟩ := matchLs_ok (ρ := ρ) (ρ' := ρ') h ha
  obtain ⟨cs,e,hl,hs⟩ := hv
  exact ⟨cs,e,by rw [hl,k1],k2 hs⟩
 ·cases h
theorem matchVs_ok : ∀ {ps ls : List SV} {a : List (Nat × Ref)},matchVs ps ls = some a → (∀ x ∈ a,Ep x.1 = x.2.val E) → ∀ {vs : List Value},satVs ρ E ls vs → satVs ρ' Ep ps vs
 | [],[],_,_,_,vs,hs=>by cases vs; trivial; exact hs.elim
 | p :: ps,l :: ls,a,h,ha,vs,hs=>by
  simp only [matchVs] at h
  split at h
  ·rename_i x hx
   split at h
   ·rename_i y hy
    injection h with h; subst h
    cases vs with
    | nil=>exact hs.elim
    | cons v vs=>exact ⟨matchV_ok hx (fun z hz=>ha z (List.mem_append_left _ hz)) hs.1,matchVs_ok hy (fun z hz=>ha z (List.mem_append_right _ hz)) hs.2⟩
   ·cases h
  ·cases h
 | [],_ :: _,_,h,_,_,_=>by cases h
 | _ :: _,[],_,h,_,_,_=>by cases h
end
def outR (k : Nat) (F : Nat → List Int → Int) (iv : Nat → Int × Int) (rs : List Ref) (r : Ref) (g : Gl) : Ref × Gl :=
 match r with
 | .c n=>(.c n,g)
 | .e i=>if i < k then (rs.getD i (.c 0),g) else g.push (.fn (F i) (iv i).1 (iv i).2 rs)
def outL (k : Nat) (F : Nat → List Int → Int) (iv : Nat → Int × Int) (rs : List Ref) : Leaf → Gl → Option (Leaf × Gl)
 | .int q r,g=>let (r,g) := outR k F iv rs r g; some (.int q r,g)
 | .bool r,g=>let (r,g) := outR k F iv rs r g; some (.bool r,g)
 | .nilI,g=>some (.nilI,g)
 | .nilP,g=>some (.nilP,g)
 | .nilS,g=>some (.nilS,g)
 | .nilF,g=>some (.nilF,g)
 | .junk,g=>some (.junk,g)
 | .ifc t x,g=>match outL k F iv rs x g with
  | some (x,g)=>some (.ifc t x,g)
  | none=>none
 | .mix c a b,g =>
  let (c,g) := outR k F iv rs c g
  match outL k F iv rs a g with
  | some (a,g)=>match outL k F iv rs b g with
   | some (b,g)=>some (.mix c a b,g)
   | none=>none
  | none=>none
 | _,_=>none
def outLs (k : Nat) (F : Nat → List Int → Int) (iv : Nat → Int × Int) (rs : List Ref) : List Leaf → Gl → Option (List Leaf × Gl)
 | [],g=>some ([],g)
 | l :: ls,g=>match outL k F iv rs l g with
  | some (l,g)=>match outLs k F iv rs ls g with
   | some (ls,g)=>some (l :: ls,g)
   | none=>none
  | none=>none
def outA (k : Nat) (F : Nat → List Int → Int) (iv : Nat → Int × Int) (rs : List Ref) : SA → Gl → Option (SA × Gl)
 | .one l,g=>match outL k F iv rs l g with | some (l,g)=>some (.one l,g) | none=>none
 | .agg ls,g=>match outLs k F iv rs ls g with | some (ls,g)=>some (.agg ls,g) | none=>none
def outAs (k : Nat) (F : Nat → List Int → Int) (iv : Nat → Int × Int) (rs : List Ref) : List SA → Gl → Option (List SA × Gl)
 | [],g=>some ([],g)
 | l :: ls,g=>match outA k F iv rs l g with
  | some (l,g)=>match outAs k F iv rs ls g with
   | some (ls,g)=>some (l :: ls,g)
   | none=>none
  | none=>none
def outV (k : Nat) (F : Nat → List Int → Int) (iv : Nat → Int × Int) (rs : List Ref) : SV → Gl → Option (SV × Gl)
 | .a x,g=>match outA k F iv rs x g with | some (x,g)=>some (.a x,g) | none=>none
 | .tup xs,g=>match outAs k F iv rs xs g with | some (xs,g)=>some (.tup xs,g) | none=>none
 | _,_=>none
section
variable {I : Nat → Int} {X : Nat → List Int → Int} {ρ ρ' : Map} {E Ef : Nat → Int} {g g' : Gl} {k : Nat} {F : Nat → List Int → Int} {iv : Nat → Int × Int} {rs : List Ref}
structure OutOk (k : Nat) (F : Nat → List Int → Int) (iv : Nat → Int × Int) (rs : List Ref) (E Ef : Nat → Int) : Prop where
 low : ∀ i,i < k → Ef i = (rs.getD i (.c 0)).val E
 high : ∀ i,k ≤ i → Ef i = clampI (iv i).1 (iv i).2 (F i (rs.map (Ref.val E)))
theorem outR_ok {r q : Ref} (h : outR k F iv rs r g = (q,g')) : (Good I X E g' → Good I X E g) ∧ (Good I X E g' → OutOk k F iv rs E Ef → q.val E = r.val Ef) := by
 unfold outR at h
 split at h
 ·simp only [Prod.mk.injEq] at h
  obtain ⟨rfl,rfl⟩ := h
  exact ⟨fun H=>H,fun _ _=>rfl⟩
 ·rename_i i
  split at h
  ·rename_i hi
   simp only [Prod.mk.injEq] at h
   obtain ⟨rfl,rfl⟩ := h
   exact ⟨fun H=>H,fun _ ho=>(ho.low i hi).symm⟩
  ·rename_i hi
   refine ⟨fun H=>(push_ok h H).1,fun H ho=>?_⟩
   rw [(push_ok h H).2]
   exact (ho.high i (by omega)).symm
theorem outL_ok : ∀ {l z : Leaf} {g g' : Gl},outL k F iv rs l g = some (z,g') → (Good I X E g' → Good I X E g) ∧ (Good I X E g' → OutOk k F iv rs E Ef → ∀ ρ ρ' v,l.sat ρ Ef v → z.sat ρ' E v) := by
 intro l
 induction l with
 | int q r =>
  intro z g g' h
  simp only [outL] at h
  rcases h1 : outR k F iv rs r g with ⟨r1,g1⟩
  simp only [h1] at h
  injection h with h; injection h with e1 e2; subst e1; subst e2
  obtain ⟨k1,k2⟩ := outR_ok (I := I) (X := X) (E := E) (Ef := Ef) h1
  refine ⟨k1,fun H ho ρ ρ' v hv=>?_⟩
  simp only [Leaf.sat] at hv ⊢
  rw [hv,k2 H ho]
 | bool r =>
  intro z g g' h
  simp only [outL] at h
  rcases h1 : outR k F iv rs r g with ⟨r1,g1⟩
  simp only [h1] at h
  injection h with h; injection h with e1 e2; subst e1; subst e2
  obtain ⟨k1,k2⟩ := outR_ok (I := I) (X := X) (E := E) (Ef := Ef) h1
  refine ⟨k1,fun H ho ρ ρ' v hv=>?_⟩
  simp only [Leaf.sat] at hv ⊢
  rw [hv,k2 H ho]
 | nilI=>intro z g g' h; simp only [outL] at h; injection h with h; injection h with e1 e2; subst e1; subst e2; exact ⟨fun H=>H,fun _ _ _ _ _ hv=>hv⟩
 | nilP=>intro z g g' h; simp only [outL] at h; injection h with h; injection h with e1 e2; subst e1; subst e2; exact ⟨fun H=>H,fun _ _ _ _ _ hv=>hv⟩
 | nilS=>intro z g g' h; simp only [outL] at h; injection h with h; injection h with e1 e2; subst e1; subst e2; exact ⟨fun H=>H,fun _ _ _ _ _ hv=>hv⟩
 | nilF=>intro z g g' h; simp only [outL] at h; injection h with h; injection h with e1 e2; subst e1; subst e2; exact ⟨fun H=>H,fun _ _ _ _ _ hv=>hv⟩
 | junk=>intro z g g' h; simp only [outL] at h; injection h with h; injection h with e1 e2; subst e1; subst e2; exact ⟨fun H=>H,fun _ _ _ _ _ _=>trivial⟩
 | ifc t x ih =>
  intro z g g' h
  simp only [outL] at h
  split at h
  ·rename_i y g1 h1
   injection h with h; injection h with e1 e2; subst e1; subst e2
   obtain ⟨k1,k2⟩ := ih h1
   exact ⟨k1,fun H ho ρ ρ' v ⟨u,e,hu⟩=>⟨u,e,k2 H ho ρ ρ' u hu⟩⟩
  ·cases h
 | mix c a b iha ihb =>
  intro z g g' h
  simp only [outL] at h
  rcases h1 : outR k F iv rs c g with ⟨c1,g1⟩
  simp only [h1] at h
  split at h
  ·rename_i a1 g2 h2
   split at h
   ·rename_i b1 g3 h3
    injection h with h; injection h with e1 e2; subst e1; subst e2
    obtain ⟨k1,k2⟩ := outR_ok (I := I) (X := X) (E := E) (Ef := Ef) h1
    obtain ⟨a1,a2⟩ := iha h2
    obtain ⟨b1,b2⟩ := ihb h3
    refine ⟨fun H=>k1 (a1 (b1 H)),fun H ho ρ ρ' v hv=>?_⟩
    have hc := k2 (a1 (b1 H)) ho
    simp only [Leaf.sat] at hv ⊢
    rw [hc]
    exact ⟨fun h=>a2 (b1 H) ho ρ ρ' v (hv.1 h),fun h=>b2 H ho ρ ρ' v (hv.2 h)⟩
   ·cases h
  ·cases h
 | _=>intro z g g' h; simp [outL] at h
theorem outLs_ok : ∀ {ls zs : List Leaf} {g g' : Gl},outLs k F iv rs ls g = some (zs,g') → (Good I X E g' → Good I X E g) ∧ zs.length = ls.length ∧ (Good I X E g' → OutOk k F iv rs E Ef → ∀ ρ ρ' vs,sats ρ Ef ls vs → sats ρ' E zs vs)
 | [],zs,g,g',h=>by
  simp only [outLs] at h
  injection h with h; injection h with e1 e2; subst e1; subst e2
  exact ⟨fun H=>H,rfl,fun _ _ _ _ _ _=>trivial⟩
 | l :: ls,zs,g,g',h=>by
  simp only [outLs] at h
  split at h
  ·rename_i z g1 h1
   split at h
   ·rename_i ys g2 h2
    injection h with h; injection h with e1 e2; subst e1; subst e2
    obtain ⟨k1,k2⟩ := outL_ok (I := I) (X := X) (E := E) (Ef := Ef) h1
    obtain ⟨q1,q2,q3⟩ := outLs_ok h2
    refine ⟨fun H=>k1 (q1 H),by simp [q2],fun H ho ρ ρ' vs hs=>?_⟩
    cases vs with
    | nil=>exact hs.elim
    | cons v vs=>exact ⟨k2 (q1 H) ho ρ ρ' v hs.1,q3 H ho ρ ρ' vs hs.2⟩
   ·cases h
  ·cases h
theorem outA_ok {x z : SA} (h : outA k F iv rs x g = some (z,g')) : (Good I X E g' → Good I X E g) ∧ (Good I X E g' → OutOk k F iv rs E Ef → ∀ ρ ρ' v,x.sat ρ Ef v → z.sat ρ' E v) := by
 cases x with
 | one l =>
  simp only [outA] at h
  split at h
  ·rename_i y g1 h1
   injection h with h; injection h with e1 e2; subst e1; subst e2
   exact outL_ok h1
  ·cases h
 | agg ls =>
  simp only [outA] at h
  split at h
  ·rename_i y g1 h1
   injection h with h; injection h with e1 e2; subst e1; subst e2
   obtain ⟨q1,q2,q3⟩ := outLs_ok (I := I) (X := X) (E := E) (Ef := Ef) h1
   exact ⟨q1,fun H ho ρ ρ' v ⟨cs,e,hl,hs⟩=>⟨cs,e,by rw [hl,q2],q3 H ho ρ ρ' cs hs⟩⟩
  ·cases h
theorem outAs_ok : ∀ {ls zs : List SA} {g g' : Gl},outAs k F iv rs ls g = some (zs,g') → (Good I X E g' → Good I X E g) ∧ (Good I X E g' → OutOk k F iv rs E Ef → ∀ ρ ρ' vs,satA ρ Ef ls vs → satA ρ' E zs vs)
 | [],zs,g,g',h=>by
  simp only [outAs] at h
  injection h with h; injection h with e1 e2; subst e1; subst e2
  exact ⟨fun H=>H,fun _ _ _ _ vs hs=>by cases vs; trivial; exact hs.elim⟩
 | l :: ls,zs,g,g',h=>by
  simp only [outAs] at h
  split at h
  ·rename_i z g1 h1
   split at h
   ·rename_i ys g2 h2
    injection h with h; injection h with e1 e2; subst e1; subst e2
    obtain ⟨k1,k2⟩ := outA_ok (I := I) (X := X) (E := E) (Ef := Ef) h1
    obtain ⟨q1,q3⟩ := outAs_ok h2
    refine ⟨fun H=>k1 (q1 H),fun H ho ρ ρ' vs hs=>?_⟩
    cases vs with
    | nil=>exact hs.elim
    | cons v vs=>exact ⟨k2 (q1 H) ho ρ ρ' v hs.1,q3 H ho ρ ρ' vs hs.2⟩
   ·cases h
  ·cases h
theorem outV_ok {x z : SV} (h : outV k F iv rs x g = some (z,g')) : (Good I X E g' → Good I X E g) ∧ (Good I X E g' → OutOk k F iv rs E Ef → ∀ ρ ρ' v,x.sat ρ Ef v → z.sat ρ' E v) := by
 cases x with
 | a x =>
  simp only [outV] at h
  split at h
  ·rename_i y g1 h1
   injection h with h; injection h with e1 e2; subst e1; subst e2
   exact outA_ok h1
  ·cases h
 | tup xs =>
  simp only [outV] at h
  split at h
  ·rename_i y g1 h1
   injection h with h; injection h with e1 e2; subst e1; subst e2
   obtain ⟨q1,q3⟩ := outAs_ok (I := I) (X := X) (E := E) (Ef := Ef) h1
   exact ⟨q1,fun H ho ρ ρ' v ⟨vs,e,hs⟩=>⟨vs,e,q3 H ho ρ ρ' vs hs⟩⟩
  ·cases h
 | whn cs x=>simp [outV] at h
end
structure Sum where
 args : List SV
 k : Nat
 dom : List (Nat × Int × Int)
 out : SV
 F : Nat → List Int → Int
 iv : Nat → Int × Int
 tabs : List SB
def mustAll (pc : Ref) (rs : List Ref) : List (Nat × Int × Int) → Gl → Gl
 | [],g=>g
 | (i,lo,hi) :: l,g =>
  let (x,g) := g.bin .geq .i64 (rs.getD i (.c 0)) (.c lo)
  let g := g.must pc x
  let (y,g) := g.bin .leq .i64 (rs.getD i (.c 0)) (.c hi)
  let g := g.must pc y
  mustAll pc rs l g
def Sum.ctr (S : Sum) : Ctr where
 run args m pc g :=
  match matchVs S.args args with
  | none=>none
  | some a =>
   if a.map (·.1) = List.range S.k ∧ S.tabs.all (fun b=>decide (m.bs.find? (·.id == b.id) = some b)) then
    match outV S.k S.F S.iv (a.map (·.2)) S.out (mustAll pc (a.map (·.2)) S.dom g) with
    | some (v,g)=>some (v,m,g)
    | none=>none
   else none
def X0 : Nat → List Int → Int := fun _ _=>0
def ofL (xs : List Int) : Nat → Int := fun n=>xs.getD n 0
def InDom (dom : List (Nat × Int × Int)) (I : Nat → Int) : Prop := ∀ p ∈ dom,p.2.1 ≤ I p.1 ∧ I p.1 ≤ p.2.2
section
variable {O : Objs} {I : Nat → Int} {X : Nat → List Int → Int} {ρ : Map} {E : Nat → Int} {w : World} {g g' : Gl} {C : Cx} [TyOk C.P C.T] [FnOk C.P C.F]
theorem mustAll_ok {pc : Ref} {rs : List Ref} : ∀ {dom : List (Nat × Int × Int)} {g : Gl},Good I X E (mustAll pc rs dom g) → Good I X E g ∧ (truth (pc.val E) = true → InDom dom fun i=>(rs.getD i (.c 0)).val E)
 | [],g,H=>⟨H,fun _ p hp=>by cases hp⟩
 | (i,lo,hi) :: l,g,H=>by
  simp only [mustAll] at H
  rcases h1 : g.bin .geq .i64 (rs.getD i (.c 0)) (.c lo) with ⟨x,g1⟩
  simp only [h1] at H
  rcases h2 : (g1.must pc x).bin .leq .i64 (rs.getD i (.c 0)) (.c hi) with ⟨y,g2⟩
  simp only [h2] at H
  obtain ⟨H1,k1⟩ := mustAll_ok H
  obtain ⟨H2,m2⟩ := must_ok H1
  obtain ⟨H3,b2⟩ := bin_ok h2 H2
  obtain ⟨H4,m1⟩ := must_ok H3
  obtain ⟨H5,b1⟩ := bin_ok h1 H4
  refine ⟨H5,fun hp p hpm=>?_⟩
  rcases List.mem_cons.1 hpm with rfl | hpm
  ·have t1 := m1 hp
   have t2 := m2 hp
   rw [b1] at t1
   rw [b2] at t2
   simp only [intSem,truth_ofB,ge_iff_le,decide_eq_true_eq] at t1 t2
   exact ⟨t1,t2⟩
  ·exact k1 hp p hpm
theorem getD_map_val {rs : List Ref} {n : Nat} : (rs.map (Ref.val E)).getD n 0 = (rs.getD n (.c 0)).val E := by
 simp only [List.getD_eq_getElem?_getD,List.getElem?_map]
 cases rs[n]? <;> rfl
theorem find_key {a : List (Nat × Ref)} {k : Nat} (h : a.map (·.1) = List.range k) : ∀ x ∈ a,((a.map (·.2)).getD x.1 (.c 0)) = x.2 := fun x hx=>by
 obtain ⟨j,hj⟩ := List.mem_iff_getElem?.1 hx
 have h1 : (a.map (·.1))[j]? = some x.1 := by rw [List.getElem?_map,hj]; rfl
 rw [h] at h1
 have hjk : j < k := by
  have := (List.getElem?_eq_some_iff.1 h1).1
  simpa using this
 have : x.1 = j := by
  rw [List.getElem?_range hjk] at h1
  simpa using h1.symm
 rw [this,List.getD_eq_getElem?_getD,List.getElem?_map,hj]
 rfl
theorem Sum.ok (hmix : C.P.follows .mixedOrders = true) (hname : ∀ (f : FuncId) (fn : Func),C.P.funcs[f]? = some fn → fn.name ≠ "runtime.NumGoroutine")
  (hctr : ∀ I X E f c,C.ctr f = some c → CtrOk C O I X E f c) (S : Sum) {f : FuncId} {fuel d nt : Nat} {m' : Mem} {g1 : Gl}
  (hev : evFn C d fuel f S.args ⟨S.tabs,nt⟩ (.c 1) (inps S.k) = some (S.out,m',g1)) (hWt : WF ⟨S.tabs,nt⟩) (hglob : ∀ gl id,C.glob gl = some id → id < nt)
  (hcl : ∀ b ∈ S.tabs,(b.obj = none ∧ b.cs = []) ∧ matchLs b.cells b.cells = some []) (hkeep : ∀ b ∈ S.tabs,b ∈ m'.bs) (hwf : wfDefs g1.nd g1.defs = true) (hF : ∀ i xs,S.F i xs = runDefs (ofL xs) X0 g1.defs i)
  (hob : ∀ I,InDom S.dom I → ∀ p ∈ g1.obl,truth (p.1.val (runDefs I X0 g1.defs)) = true → truth (p.2.val (runDefs I X0 g1.defs)) = true)
  (hiv : ∀ I,InDom S.dom I → ∀ i,S.k ≤ i → clampI (S.iv i).1 (S.iv i).2 (runDefs I X0 g1.defs i) = runDefs I X0 g1.defs i) :
  ∀ I X E,CtrOk C O I X E f S.ctr := fun I X E args m pc g v m1 g' h=>by
 unfold Sum.ctr at h
 simp only at h
 split at h
 ·cases h
 ·rename_i a ha
  split at h
  ·rename_i hc
   obtain ⟨hkeys,htabs⟩ := hc
   split at h
   ·rename_i v2 g2 hout
    injection h with h; injection h with e1 e; injection e with e2 e3; subst e1; subst e2; subst e3
    have hgood : Good I X E g2 → Good I X E g := fun H=>(mustAll_ok ((outV_ok (Ef := fun _=>0) hout).1 H)).1
    have hcall := fun (I : Nat → Int) (E : Nat → Int)=>evFn_ok (C := C) (O := O) (I := I) (X := X0) (E := E) hmix hname (fun f c hc=>hctr I X0 E f c hc) fuel d
    have hbody : ∃ fn b,C.P.funcs[f]? = some fn ∧ fn.body = some b := by
     obtain ⟨⟨fn,b,h1,h2,_⟩,_⟩ := hcall (fun _=>0) (fun _=>0) _ _ _ _ _ _ _ _ hev
     exact ⟨fn,b,h1,h2⟩
    refine ⟨hbody,fun _=>St.of_good hgood,fun H ρ vs w hs hG hM hW hp hf=>?_⟩
    have hmust := mustAll_ok ((outV_ok (Ef := fun _=>0) hout).1 H)
    have hdom : InDom S.dom (ofL ((a.map (·.2)).map (Ref.val E))) := fun p hpm=>by
     have := hmust.2 hp p hpm
     unfold ofL
     rw [getD_map_val]
     exact this
    generalize hrs : a.map (·.2) = rs at *
    let If : Nat → Int := ofL (rs.map (Ref.val E))
    let Ef : Nat → Int := runDefs If X0 g1.defs
    have hGf : Good If X0 Ef g1 := ⟨runDefs_good hwf,hob If hdom⟩
    obtain ⟨_,q1,q2⟩ := hcall If Ef _ _ _ _ _ _ _ _ hev
    have hG0 : Good If X0 Ef (inps S.k) := (q1 hWt).good hGf
    have hin : ∀ i,i < S.k → Ef i = (rs.getD i (.c 0)).val E := fun i hi=>by
     rw [inps_good hG0 i hi]
     show (rs.map (Ref.val E)).getD i 0 = _
     exact getD_map_val
    have hargs : satVs (fun i=>if i < nt then ρ i else none) Ef S.args vs := by
     refine matchVs_ok ha (fun x hx=>?_) hs
     have hx1 : x.1 < S.k := by
      have : x.1 ∈ a.map (·.1) := List.mem_map.2 ⟨x,hx,rfl⟩
      rw [hkeys] at this
      exact List.mem_range.1 this
     rw [hin x.1 hx1,← hrs,find_key hkeys x hx]
    have htab : ∀ b ∈ S.tabs,m.bs.find? (·.id == b.id) = some b := fun b hb=>by
     have := List.all_eq_true.1 htabs b hb
     simpa using this
    have htm : ∀ b ∈ S.tabs,b ∈ m.bs := fun b hb=>List.mem_of_find?_eq_some (htab b hb)
    have hρf : ∀ b ∈ S.tabs,(fun i=>if i < nt then ρ i else none) b.id = ρ b.id := fun b hb=>if_pos (hWt.2 b hb)
    have blkTo : ∀ {ρ1 ρ2 : Map} {E1 E2 : Nat → Int} {w : World} {b : SB},b ∈ S.tabs → ρ1 b.id = ρ2 b.id → Blk O ρ1 E1 b w → Blk O ρ2 E2 b w := fun {ρ1 ρ2 E1 E2 w b} hb hρ ⟨L,us,h1,h2,h3⟩=>by
     obtain ⟨⟨ho,_⟩,hm⟩ := hcl b hb
     exact ⟨L,us,by rw [← hρ]; exact h1,(matchLs_ok hm fun x hx=>by cases hx).2 h2,h3⟩
    have hMt : M O (fun i=>if i < nt then ρ i else none) Ef S.tabs w :=
     ⟨fun b hb _=>blkTo hb (hρf b hb).symm (hM.blk b (htm b hb) (allC_nil (hcl b hb).1.2)),fun b hb c hc _ _ hne L L' hL hL'=>hM.disj b (htm b hb) c (htm c hc) (allC_nil (hcl b hb).1.2) (allC_nil (hcl c hc).1.2) hne L L' (by rw [← hρf b hb]; exact hL) (by rw [← hρf c hc]; exact hL'),
      fun b hb _ L hL=>hM.low b (htm b hb) (allC_nil (hcl b hb).1.2) L (by rw [← hρf b hb]; exact hL)⟩
    have hGl : GlobOk C (fun i=>if i < nt then ρ i else none) := fun gl id hid=>by
     obtain ⟨L,hL,e⟩ := hG gl id hid
     exact ⟨L,(show (if id < nt then ρ id else none) = some L by rw [if_pos (hglob gl id hid)]; exact hL),e⟩
    have hcalls := q2 hGf _ vs w hargs hGl hMt hWt rfl (fun i h1 h2=>if_neg (by simp only at h1; omega))
    refine Calls.mono hcalls fun e w' he=>?_
    obtain ⟨ρ',u,rfl,k1,k2,k3⟩ := he
    have hout2 := (outV_ok (I := I) (X := X) (E := E) (Ef := Ef) hout).2 H ⟨hin,fun i hi=>by
     rw [hF]
     exact (hiv If hdom i hi).symm⟩
    refine ⟨ρ,u,rfl,hout2 ρ' ρ u k1,⟨fun b hb hbc=>?_,hM.disj,fun b hb hbc L hL x hx=>?_⟩,⟨Lk.rfl',k3.size,fun n hn hno=>k3.keep n hn fun b hb L hL=>hno b (htm b hb) L ((hρf b hb).symm.trans hL),fun _=>.inr rfl,fun _ _ _ h=>absurd rfl h,k3.io⟩⟩
    ·by_cases ht : ∃ c ∈ S.tabs,c.id = b.id
     ·obtain ⟨c,hc,e⟩ := ht
      obtain rfl : c = b := hW.uniq (htm c hc) hb e
      have ho := (hcl c hc).1.1
      have hcn : ∀ {E : Nat → Int},allC E c.cs = true := fun {E}=>allC_nil (hcl c hc).1.2
      refine blkTo hc ?_ (k2.blk c (hkeep c hc) hcn)
      obtain ⟨L,_,hL,_,b1⟩ := hMt.blk c hc hcn
      obtain ⟨L',_,hL',_,b2⟩ := k2.blk c (hkeep c hc) hcn
      simp only [ho] at b1 b2
      obtain ⟨L2,h1,e1,e2,e3⟩ := k3.le _ _ hL
      rw [h1] at hL'
      obtain rfl : L2 = L' := by injection hL'
      have h2 : ρ c.id = some L := (hρf c hc).symm.trans hL
      rw [h1,h2]
      have e4 : L2.own = L.own := funext fun x=>propext (by rw [b1.1,b2.1,e1])
      cases L; cases L2
      simp only at e1 e2 e3 e4
      subst e1; subst e2; subst e3; subst e4
      rfl
     ·refine (hM.blk b hb hbc).keep k3.size fun L hL x hx=>?_
      refine k3.keep x (hM.low b hb hbc L hL x hx) fun c hc L' hL' hx'=>?_
      exact hM.disj c (htm c hc) b hb (allC_nil (hcl c hc).1.2) hbc (fun e=>ht ⟨c,hc,e⟩) L' L ((hρf c hc).symm.trans hL') hL x hx' hx
    ·have := hM.low b hb hbc L hL x hx
     have := k3.size
     omega
   ·cases h
  ·cases h
end
end Go.Proofs.YtbegodiligmphaaGreatDoor.Sy
