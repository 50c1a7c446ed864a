/- Part of the proof of BusProof. A symbolic evaluator: slices of which the cells are not known: appends and cuts. No program in sight. A symbolic evaluator: every operation that is no call. No program in sight. A symbolic evaluator: calls, guards. No program in sight. A symbolic evaluator: regions. No program in sight. A symbolic evaluator: regions that draw their order. No program in sight. -/
import Derived.Test.YtbegodiligmphaaGreatDoorQb01
namespace Go.Proofs.YtbegodiligmphaaGreatDoor.Sy
open Go
section
variable {P : Program} {T : Tys} [TyOk P T] {O : Objs} {I : Nat → Int} {X : Nat → List Int → Int} {ρ : Map} {E : Nat → Int} {w w' : World} {m m' : Mem} {g g' : Gl}
theorem objK_ok {id k : Nat} (h : objK m id = some k) : ∃ b ∈ m.bs,b.id = id ∧ b.cs = [] ∧ b.obj = some k := by
 unfold objK at h
 split at h
 ·rename_i b hb
  split at h
  ·rename_i hcs
   exact ⟨b,List.mem_of_find?_eq_some hb,by simpa using List.find?_some hb,hcs,h⟩
  ·cases h
 ·cases h
theorem objK_sl {id z : Nat} (hM : M O ρ E m.bs w) (h : objK m id = some (1000 + z)) {L : Loc} (hL : ρ id = some L) : SlOk z L w ∧ ∀ x,L.own x → x < w.heap.size := by
 obtain ⟨b,hb,rfl,hcs,ho⟩ := objK_ok h
 obtain ⟨L',vs,hL',_,h3⟩ := hM.blk b hb (allC_nil hcs)
 rw [hL] at hL'
 obtain rfl : L = L' := by injection hL'
 rw [ho] at h3
 simp only [Objs.re] at h3
 rw [if_pos (by omega)] at h3
 refine ⟨?_,hM.low b hb (allC_nil hcs) L hL⟩
 have e : 1000 + z - 1000 = z := by omega
 rw [e] at h3
 exact h3
theorem objStep {kp : Nat → Bool} {D : Nat → Prop} {ls : List Leaf} {ob : Option Nat} {L : Loc} (hM : M O ρ E m.bs w) (hW : WF m) (hf : ρ m.nb = none) (hb : Blk O (more ρ m.nb L) E ⟨m.nb,[],ls,ob⟩ w')
  (hown : ∀ x,L.own x → D x ∨ w.heap.size ≤ x) (hl : ∀ x,L.own x → x < w'.heap.size) (hD : ∀ b ∈ m.bs,kp b.id = true → allC E b.cs = true → ∀ K,ρ b.id = some K → ∀ x,K.own x → ¬ D x)
  (hD2 : ∀ x,D x → ∃ b ∈ m.bs,∃ K,ρ b.id = some K ∧ K.own x) (hsz : w.heap.size ≤ w'.heap.size) (hk : ∀ x,x < w.heap.size → ¬ D x → w'.heap[x]? = w.heap[x]?) (hio : Go.RowKit.Below 0 w w') :
  M O (more ρ m.nb L) E (⟨m.nb,[],ls,ob⟩ :: m.bs.filter (fun b=>kp b.id)) w' ∧ Ext ρ (more ρ m.nb L) m ⟨⟨m.nb,[],ls,ob⟩ :: m.bs.filter (fun b=>kp b.id),m.nb + 1⟩ w w' := by
 have hle := (more_le (L := L) hf).lk
 have hne : ∀ b ∈ m.bs,b.id ≠ m.nb := fun b hb e=>by have := hW.2 b hb; omega
 have fl : ∀ x ∈ m.bs.filter (fun b=>kp b.id),x ∈ m.bs ∧ kp x.id = true := fun x hx=>by
  obtain ⟨h1,h2⟩ := List.mem_filter.1 hx
  exact ⟨h1,h2⟩
 refine ⟨⟨fun x hx hc=>?_,fun x hx y hy hc hc' hne' K K' hK hK' z hz1 hz2=>?_,fun x hx hc K hK z hz1=>?_⟩,⟨hle,hsz,fun n hn hno=>hk n hn fun hd=>?_,fun i=>?_,fun i K hi hK x hx=>?_,hio⟩⟩
 ·rcases List.mem_cons.1 hx with rfl | hx
  ·exact hb
  ·obtain ⟨x1,x2⟩ := fl x hx
   refine ((hM.blk x x1 hc).mono hle (more_ne (hne x x1))).keep hsz fun K hK z hz=>?_
   rw [more_ne (hne x x1)] at hK
   exact hk z (hM.low x x1 hc K hK z hz) (hD x x1 x2 hc K hK z hz)
 ·rcases List.mem_cons.1 hx with rfl | hx <;> rcases List.mem_cons.1 hy with rfl | hy
  ·exact hne' rfl
  ·obtain ⟨y1,y2⟩ := fl y hy
   rw [more_ne (hne y y1)] at hK'
   simp only [more_self,Option.some.injEq] at hK
   subst hK
   rcases hown z hz1 with hd | hd
   ·exact hD y y1 y2 hc' K' hK' z hz2 hd
   ·have := hM.low y y1 hc' K' hK' z hz2; omega
  ·obtain ⟨x1,x2⟩ := fl x hx
   rw [more_ne (hne x x1)] at hK
   simp only [more_self,Option.some.injEq] at hK'
   subst hK'
   rcases hown z hz2 with hd | hd
   ·exact hD x x1 x2 hc K hK z hz1 hd
   ·have := hM.low x x1 hc K hK z hz1; omega
  ·obtain ⟨x1,x2⟩ := fl x hx
   obtain ⟨y1,y2⟩ := fl y hy
   rw [more_ne (hne x x1)] at hK
   rw [more_ne (hne y y1)] at hK'
   exact hM.disj x x1 y y1 hc hc' hne' K K' hK hK' z hz1 hz2
 ·rcases List.mem_cons.1 hx with rfl | hx
  ·simp only [more_self,Option.some.injEq] at hK
   subst hK
   exact hl z hz1
  ·obtain ⟨x1,x2⟩ := fl x hx
   rw [more_ne (hne x x1)] at hK
   have := hM.low x x1 hc K hK z hz1
   omega
 ·obtain ⟨b,b1,K,b2,b3⟩ := hD2 n hd
  exact hno b b1 K b2 b3
 ·by_cases hi : i = m.nb
  ·subst hi; exact .inl (.inl ⟨Nat.le_refl _,Nat.lt_succ_self _⟩)
  ·exact .inr (more_ne hi)
 ·by_cases he : i = m.nb
  ·subst he
   simp only [more_self,Option.some.injEq] at hi
   subst hi
   rcases hown x hx with hd | hd
   ·exact .inr (hD2 x hd)
   ·exact .inl hd
  ·exact absurd (more_ne he) hK
theorem St.objStep {kp : Nat → Bool} {ls : List Leaf} {ob : Option Nat} (hg : Good I X E g' → Good I X E g) : St I X E g g' m ⟨⟨m.nb,[],ls,ob⟩ :: m.bs.filter (fun b=>kp b.id),m.nb + 1⟩ :=
 ⟨hg,Nat.le_succ _,fun x hx=>by
  rcases List.mem_cons.1 hx with rfl | hx
  ·exact .inr ⟨Nat.le_refl _,Nat.lt_succ_self _⟩
  ·exact .inl ⟨x,(List.mem_filter.1 hx).1,rfl⟩,fun h=>⟨List.pairwise_cons.2 ⟨fun x hx=>h.2 x (List.mem_filter.1 hx).1,h.1.sublist List.filter_sublist⟩,fun x hx=>by
  rcases List.mem_cons.1 hx with rfl | hx
  ·exact Nat.lt_succ_self _
  ·exact Nat.lt_succ_of_lt (h.2 x (List.mem_filter.1 hx).1)⟩⟩
theorem SlOk.src {z : Nat} {L : Loc} (h : SlOk z L w) {a : Option Addr} {len cap : Nat} (hv : L.val = .slice a len cap) {tx e' : TypeId} (hk : P.underlying tx = some (.slice e')) :
  ∃ nv : List Value,nv.length = len * z ∧ Src P z tx L.val len nv w ∧ ∀ v ∈ nv,Plain v := by
 obtain ⟨a',len',cap',hv',hlc,h3⟩ := h
 rw [hv] at hv'
 injection hv' with e1 e2 e3
 subst e1; subst e2; subst e3
 rw [hv]
 rcases h3 with ⟨rfl,hc⟩ | ⟨b,off,rfl,h3⟩
 ·have hl : len = 0 := by omega
  subst hl
  exact ⟨[],by simp,Src.ofNil w hk cap,fun v hv=>by cases hv⟩
 ·rcases h3 with hc | ⟨_,t,cs,hh,hle,hp⟩
  ·have hl : len = 0 := by omega
   subst hl
   exact ⟨[],by simp,Src.ofSlice w hk _ 0 cap [] (by simp) (fun j u hu=>by simp at hu) (fun u hu=>by cases hu),fun v hv=>by cases hv⟩
  ·have hmul : len * z ≤ cap * z := Nat.mul_le_mul_right _ hlc
   have hh' : w.heap[b]? = some (.cells cs.toList.toArray t (0,0)) := by simpa using hh
   have hsz : cs.toList.length = cs.size := by simp
   have hlv : ((cs.toList.drop off).take (len * z)).length = len * z := take_drop_len (by omega)
   have hpl : ∀ v ∈ (cs.toList.drop off).take (len * z),Plain v := fun v hv=>hp v (List.mem_of_mem_drop (List.mem_of_mem_take hv))
   refine ⟨_,hlv,Src.ofSlice w hk _ len cap _ hlv (fun j u hu=>?_) (fun u hu=>plain_one (hpl u hu)),hpl⟩
   rw [Addr.add_mid,cell_at hh']
   have hj : j < len * z := by have := (List.getElem?_eq_some_iff.1 hu).1; omega
   rw [List.getElem?_take_of_lt hj,List.getElem?_drop] at hu
   exact hu
theorem placeV_all {p : Value → Prop} : ∀ {vs : List Value} {cs : List Value} {o : Nat},(∀ v ∈ cs,p v) → (∀ v ∈ vs,p v) → ∀ v ∈ placeV cs o vs,p v
 | [],_,_,h,_=>h
 | u :: vs,cs,o,h,h'=>placeV_all (vs := vs) (cs := cs.set o u) (o := o + 1) (fun v hv=>by
  rcases List.mem_or_eq_of_mem_set hv with h1 | h1
  ·exact h v h1
  ·rw [h1]; exact h' u (by simp)) fun v hv=>h' v (List.mem_cons_of_mem _ hv)
theorem zeroCells_mem {z : Array Value} {n : Nat} {v : Value} (h : v ∈ (Builtin.zeroCells z n).toList) : v ∈ z.toList := by
 unfold Builtin.zeroCells at h
 simp only [Array.toList_map,List.mem_map,Array.toList_range,List.mem_range] at h
 obtain ⟨j,hj,rfl⟩ := h
 have hz : 0 < z.size := by
  rcases Nat.eq_zero_or_pos z.size with h0 | h0
  ·rw [h0] at hj; simp at hj
  ·exact h0
 have hm : j % z.size < z.size := Nat.mod_lt _ hz
 rw [getElem!_pos z _ hm]
 exact Array.getElem_mem_toList hm
theorem append_sl {z by_ len cap k : Nat} {a : Option Addr} {nv : List Value} {t tx ty e : TypeId} {i : TypeInfo} {zv : Value} {vx : Value} {L : Loc} (ht : P.underlying t = some (.slice e)) (hi : P.info? e = some i) (hiz : i.zero = some zv) (hisz : i.size = z)
  (hiby : i.bytes = by_) (hzv : zv.cells.size = z) (hzp : ∀ v ∈ zv.cells.toList,Plain v) (hL : SlOk z L w) (hv : L.val = .slice a len cap) (hlow : ∀ x,L.own x → x < w.heap.size) (hs : Src P z tx vx k nv w) (hnv : ∀ v ∈ nv,Plain v)
  (hb1 : (len + k) * by_ ≤ maxBytes) (hb2 : len + k ≤ maxBytes) :
  ∃ L' w',(Builtin.append_ #[t,tx] ty #[L.val,vx]).run P w = .ok L'.val w' ∧ (∃ a' cap',L'.val = .slice a' (len + k) cap') ∧ SlOk z L' w' ∧ (∀ x,L'.own x → L.own x ∨ w.heap.size ≤ x) ∧ (∀ x,L'.own x → x < w'.heap.size) ∧
   w.heap.size ≤ w'.heap.size ∧ (∀ x,x < w.heap.size → ¬ L.own x → w'.heap[x]? = w.heap[x]?) ∧ Go.RowKit.Below 0 w w' := by
 have hmx : maxBytes = 1099511627776 := rfl
 have hL0 := hL
 obtain ⟨a',len',cap',hv',hlc,h3⟩ := hL
 rw [hv] at hv'
 injection hv' with e1 e2 e3
 subst e1; subst e2; subst e3
 have grow : cap < len + k → ∃ L' w',(Builtin.append_ #[t,tx] ty #[L.val,vx]).run P w = .ok L'.val w' ∧ (∃ a' cap',L'.val = .slice a' (len + k) cap') ∧ SlOk z L' w' ∧ (∀ x,L'.own x → L.own x ∨ w.heap.size ≤ x) ∧ (∀ x,L'.own x → x < w'.heap.size) ∧
   w.heap.size ≤ w'.heap.size ∧ (∀ x,x < w.heap.size → ¬ L.own x → w'.heap[x]? = w.heap[x]?) ∧ Go.RowKit.Below 0 w w' := fun hcap=>by
  obtain ⟨ov,o1,o2,o3⟩ : ∃ nv : List Value,nv.length = len * z ∧ Src P z t L.val len nv w ∧ ∀ v ∈ nv,Plain v := hL0.src hv ht
  rw [hv] at o2
  have hrun := run_append_grow_src w t tx ty e i zv ht hi hiz a len cap ov (by rw [hisz]; exact o2.cellsD) vx k nv (by rw [hisz]; exact hs) hcap (by omega) (growslice_fits hcap (by rw [hiby]; omega))
  have hcut : len + k ≤ grownCap w (len + k) cap e := by
   unfold grownCap
   exact Nat.le_add_right _ _
  have hnl := hs.newsLen
  refine ⟨⟨0,0,fun x=>x = w.heap.size,.slice (some ⟨w.heap.size,0,none⟩) (len + k) (grownCap w (len + k) cap e)⟩,_,by rw [hv]; exact hrun,⟨_,_,rfl⟩,⟨_,_,_,rfl,hcut,.inr ⟨w.heap.size,0,rfl,.inr ⟨rfl,e,(ov ++ nv).toArray ++ Builtin.zeroCells zv.cells (grownCap w (len + k) cap e - (len + k)),?_,?_,?_⟩⟩⟩,fun x hx=>.inr (by simp only at hx; omega),fun x hx=>by show x < (w.heap.push _).size; rw [Array.size_push]; simp only at hx; omega,by show _ ≤ (w.heap.push _).size; rw [Array.size_push]; omega,fun x hx _=>?_,((Go.RowKit.Below.refl 0 w).drew.alloc (Nat.zero_le _) _)⟩
  ·show (w.heap.push _)[w.heap.size]? = _
   rw [Array.getElem?_push_size]
  ·simp only [Array.size_append,List.size_toArray,List.length_append,o1,hnl]
   have := zeroCells_len (z := zv.cells) (k := grownCap w (len + k) cap e - (len + k)) hzv
   rw [Array.length_toList] at this
   rw [this,Nat.zero_add,← Nat.add_mul,← Nat.add_mul]
   exact Nat.mul_le_mul_right _ (by omega)
  ·intro v hvm
   simp only [Array.toList_append,List.mem_append] at hvm
   rcases hvm with hvm | hvm
   ·rcases hvm with hvm | hvm
    ·exact o3 v hvm
    ·exact hnv v hvm
   ·exact hzp v (zeroCells_mem hvm)
  ·show (w.heap.push _)[x]? = _
   rw [Array.getElem?_push_lt hx,← Array.getElem?_eq_getElem hx]
 rcases Nat.lt_or_ge cap (len + k) with hcap | hcap
 ·exact grow hcap
 ·rcases h3 with ⟨rfl,hc⟩ | ⟨b,off,rfl,h3⟩
  ·
   have hl : len = 0 := by omega
   have hk0 : k = 0 := by omega
   subst hl; subst hk0; subst hc
   have hnl := hs.newsLen
   have hnv0 : nv = [] := by simpa using hnl
   subst hnv0
   refine ⟨L,w,?_,⟨none,0,by rw [hv]⟩,hL0,fun x hx=>.inl hx,hlow,Nat.le_refl _,fun _ _ _=>rfl,Go.RowKit.Below.refl 0 w⟩
   rw [hv]
   have hc := hs.cells
   rcases hs.kind with ⟨e',hk⟩ | hk <;> simp [Builtin.append_,run_underlying ht,run_underlying hk,sizeOf,typeInfo,hi,hisz,hs.len,hc]
  ·rcases h3 with hc | ⟨ho,bt,cs,hh,hle,hp⟩
   ·have hl : len = 0 := by omega
    have hk0 : k = 0 := by omega
    subst hl; subst hk0; subst hc
    have hnl := hs.newsLen
    have hnv0 : nv = [] := by simpa using hnl
    subst hnv0
    refine ⟨L,w,?_,⟨_,0,by rw [hv]⟩,hL0,fun x hx=>.inl hx,hlow,Nat.le_refl _,fun _ _ _=>rfl,Go.RowKit.Below.refl 0 w⟩
    rw [hv]
    exact run_append_room_src w t tx ty e i ht hi b off 0 0 vx 0 [] (by rw [hisz]; exact hs) (by omega) (fun j hj=>by simp at hj) (fun j hj=>by simp at hj)
   ·have hnl := hs.newsLen
    have hh' : w.heap[b]? = some (.cells cs.toList.toArray bt (0,0)) := by simpa using hh
    have hmul : (len + k) * z ≤ cap * z := Nat.mul_le_mul_right _ hcap
    rw [Nat.add_mul] at hmul
    have hcl : cs.toList.length = cs.size := by simp
    have hth := there_of (k := nv.length) (off := off + len * z) hh' (by omega)
    have hrun := run_append_room_src w t tx ty e i ht hi b off len cap vx k nv (by rw [hisz]; exact hs) hcap (fun j hj=>by rw [hisz]; exact (hth j hj).1) (fun j hj=>by rw [hisz]; exact (hth j hj).2)
    rw [hisz] at hrun
    obtain ⟨c1,c2,c3⟩ := setCells_heap nv (off + len * z) hh'
    refine ⟨⟨L.n,L.tot,L.own,.slice (some ⟨b,off,none⟩) (len + k) cap⟩,_,by rw [hv]; exact hrun,⟨_,_,rfl⟩,⟨_,_,_,rfl,hcap,.inr ⟨b,off,rfl,.inr ⟨ho,bt,(placeV cs.toList (off + len * z) nv).toArray,c1,?_,?_⟩⟩⟩,fun x hx=>.inl hx,fun x hx=>by rw [c2]; exact hlow x hx,by rw [c2]; exact Nat.le_refl _,fun x _ hx=>c3 x fun e=>hx (by rw [e]; exact ho),setCells_io _ _ _ _⟩
    ·simp only [List.size_toArray,placeV_len]; omega
    ·intro v hvm
     exact placeV_all (p := Plain) hp hnv v (by simpa using hvm)
theorem apBase_ok {z : Nat} {s : Leaf} {d : Option Nat} {n : Ref} (h : apBase m z s = some (d,n)) (hM : M O ρ E m.bs w) {vs : Value} (hs : s.sat ρ E vs) :
  ∃ L a len cap,vs = L.val ∧ L.val = .slice a len cap ∧ n.val E = (len : Nat) ∧ SlOk z L w ∧ (∀ x,L.own x → x < w.heap.size) ∧ ((∃ id,d = some id ∧ objK m id = some (1000 + z) ∧ ρ id = some L) ∨ d = none ∧ ∀ x,¬ L.own x) := by
 unfold apBase at h
 split at h
 ·rename_i id q
  split at h
  ·rename_i hk
   injection h with h; injection h with e1 e2; subst e1; subst e2
   obtain ⟨L,hL,hv,a,len,cap,e,hn⟩ := hs
   obtain ⟨k1,k2⟩ := objK_sl hM hk hL
   exact ⟨L,a,len,cap,hv,by rw [← hv]; exact e,hn,k1,k2,.inl ⟨id,rfl,hk,hL⟩⟩
  ·cases h
 ·injection h with h; injection h with e1 e2; subst e1; subst e2
  exact ⟨⟨0,0,fun _=>False,.slice none 0 0⟩,none,0,0,hs,rfl,rfl,⟨none,0,0,rfl,Nat.le_refl _,.inl ⟨rfl,rfl⟩⟩,fun _ h=>h.elim,.inr ⟨rfl,fun _ h=>h⟩⟩
 ·rename_i id off
  injection h with h; injection h with e1 e2; subst e1; subst e2
  obtain ⟨L,hL,hv⟩ := hs
  exact ⟨⟨0,0,fun _=>False,.slice (some ⟨L.n,off,none⟩) 0 0⟩,_,0,0,hv,rfl,rfl,⟨_,0,0,rfl,Nat.le_refl _,.inr ⟨L.n,off,rfl,.inl rfl⟩⟩,fun _ h=>h.elim,.inr ⟨rfl,fun _ h=>h⟩⟩
 ·cases h
theorem apSrc_ok {z : Nat} {x : Leaf} {d : Option Nat} {k : Ref} {tx e' : TypeId} (hk : P.underlying tx = some (.slice e')) (h : apSrc m z d x = some k) (hM : M O ρ E m.bs w) {vx : Value} (hv : x.sat ρ E vx) :
  ∃ (n : Nat) (nv : List Value),k.val E = (n : Nat) ∧ Src P z tx vx n nv w ∧ ∀ v ∈ nv,Plain v := by
 unfold apSrc at h
 split at h
 ·rename_i id q
  split at h
  ·rename_i hc
   injection h with h; subst h
   obtain ⟨L,hL,hv1,a,len,cap,e,hn⟩ := hv
   obtain ⟨k1,k2⟩ := objK_sl hM hc.1 hL
   obtain ⟨nv,s1,s2,s3⟩ := k1.src (P := P) (by rw [← hv1]; exact e) hk
   exact ⟨len,nv,hn,by rw [hv1]; exact s2,s3⟩
  ·cases h
 ·split at h
  ·rename_i n new hn hnew
   split at h
   ·rename_i hf
    injection h with h; subst h
    obtain ⟨l1,nv,s1,s2,s3⟩ := rowL_ok (P := P) hk hnew hn hf hM hv
    exact ⟨n,nv,rfl,s3,firms_plain hf s1 (by omega)⟩
   ·cases h
  ·cases h
theorem evAppO_ok {t tx ty : TypeId} {e' : TypeId} {pc : Ref} {s x l : Leaf} (hk : P.underlying tx = some (.slice e')) (h : evAppO T m pc t s x g = some (l,m',g')) : St I X E g g' m m' ∧
  (Good I X E g' → truth (pc.val E) = true → ∀ O ρ w vs vx,M O ρ E m.bs w → WF m → Fresh ρ m.nb m'.nb → s.sat ρ E vs → x.sat ρ E vx → ∃ ρ' u w',(Builtin.append_ #[t,tx] ty #[vs,vx]).run P w = .ok u w' ∧ l.sat ρ' E u ∧ M O ρ' E m'.bs w' ∧ Ext ρ ρ' m m' w w') := by
 unfold evAppO at h
 split at h
 ·rename_i e ht
  replace ht := und_ok (P := P) ht
  split at h
  ·rename_i z by_ zs hz hby hzs
   split at h
   ·rename_i hc
    obtain ⟨hz0,hzl,hzf,hb⟩ := hc
    obtain ⟨i,zv,hi,hiz,hze⟩ := zeroT_ok (P := P) hzs
    have hisz : i.size = z := by
     obtain ⟨i2,hi2,hb2⟩ := sizeT_ok (P := P) hz
     rw [hi] at hi2; obtain rfl := Option.some.inj hi2; exact hb2
    have hiby : i.bytes = by_ := by
     obtain ⟨i2,hi2,hb2⟩ := bytesT_ok (P := P) hby
     rw [hi] at hi2; obtain rfl := Option.some.inj hi2; exact hb2
    have hzv : zv.cells.size = z := by rw [← hzl,hze]; simp
    have hzp : ∀ v ∈ zv.cells.toList,Plain v := by
     have hsz : sats (fun _=>none) (fun _=>0) zs zv.cells.toList := by rw [hze]; exact leafs_ok _
     exact firms_plain hzf hsz (by rw [hze]; simp)
    split at h
    ·rename_i d n hbase
     split at h
     ·rename_i k hsrc
      rcases h1 : g.bin .leq .i64 n (.c 1048576) with ⟨a,g1⟩
      simp only [h1] at h
      rcases h2 : (g1.must pc a).bin .leq .i64 k (.c 1048576) with ⟨b,g2⟩
      simp only [h2] at h
      rcases h3 : (g2.must pc b).bin .add .i64 n k with ⟨r,g3⟩
      simp only [h3] at h
      injection h with h; injection h with e1 e; injection e with e2 e3; subst e1; subst e2; subst e3
      have hgood : Good I X E g3 → Good I X E (g2.must pc b) ∧ Good I X E g2 ∧ Good I X E (g1.must pc a) ∧ Good I X E g1 ∧ Good I X E g := fun H=>by
       have H1 := (bin_ok h3 H).1
       have H2 := (must_ok H1).1
       have H3 := (bin_ok h2 H2).1
       have H4 := (must_ok H3).1
       exact ⟨H1,H2,H3,H4,(bin_ok h1 H4).1⟩
      refine ⟨St.objStep fun H=>(hgood H).2.2.2.2,fun H hp O ρ w vs vx hM hW hfr hs hv=>?_⟩
      obtain ⟨H1,H2,H3,H4,H0⟩ := hgood H
      obtain ⟨L,ad,len,cap,rfl,hLv,hn,hsl,hlow,hd⟩ := apBase_ok hbase hM hs
      obtain ⟨kn,nv,hkn,hS,hnv⟩ := apSrc_ok (P := P) hk hsrc hM hv
      have b1 := (must_ok H3).2 hp
      rw [(bin_ok h1 H4).2] at b1
      have b2 := (must_ok H1).2 hp
      rw [(bin_ok h2 H2).2] at b2
      have b3 := (bin_ok h3 H).2
      simp only [intSem,truth_ofB,decide_eq_true_eq] at b1 b2
      rw [hn] at b1
      rw [hkn] at b2
      replace b1 : (len : Int) ≤ 1048576 := b1
      replace b2 : (kn : Int) ≤ 1048576 := b2
      have hb1 : (len + kn) * by_ ≤ maxBytes := Nat.le_trans (Nat.mul_le_mul_right _ (by omega)) hb
      have hmx : maxBytes = 1099511627776 := rfl
      obtain ⟨L',w',q1,⟨a',cap',q2⟩,q3,q4,q5,q6,q7,q8⟩ := append_sl (ty := ty) ht hi hiz hisz hiby hzv hzp hsl hLv hlow hS hnv hb1 (by omega)
      have hblk : Blk O (more ρ m.nb L') E ⟨m.nb,[],[],some (1000 + z)⟩ w' := ⟨L',[],more_self,trivial,by
       simp only [Objs.re]
       rw [if_pos (by omega),show 1000 + z - 1000 = z by omega]
       exact q3⟩
      have hst := objStep (kp := keepD d) (D := L.own) hM hW (hfr _ (Nat.le_refl _) (Nat.lt_succ_self _)) hblk q4 q5 (fun c hc hkp hcs K hK y hy hyL=>?_) (fun y hy=>?_) q6 q7 q8
      ·refine ⟨_,_,w',q1,⟨L',more_self,rfl,a',len + kn,cap',q2,?_⟩,hst.1,hst.2⟩
       rw [b3]
       simp only [intSem,hn,hkn]
       have : IntKind.i64.wrap ((len : Int) + kn) = (len : Int) + kn := by
        simp [IntKind.wrap,IntKind.bits,IntKind.signed]
        omega
       rw [this]
       omega
      ·rcases hd with ⟨id,rfl,hok,hL⟩ | ⟨rfl,hno⟩
       ·obtain ⟨b0,hb0,rfl,hcs0,_⟩ := objK_ok hok
        refine hM.disj c hc b0 hb0 hcs (allC_nil hcs0) (by simpa [keepD] using hkp) K L hK hL y hy hyL
       ·exact hno y hyL
      ·rcases hd with ⟨id,rfl,hok,hL⟩ | ⟨rfl,hno⟩
       ·obtain ⟨b0,hb0,rfl,hcs0,_⟩ := objK_ok hok
        exact ⟨b0,hb0,L,hL,hy⟩
       ·exact absurd hy (hno y)
     ·cases h
    ·cases h
   ·cases h
  ·cases h
 ·cases h
theorem evAppM_ok {t tx ty : TypeId} {e' : TypeId} {pc : Ref} {s x l : Leaf} (hk : P.underlying tx = some (.slice e')) (h : evAppM T m pc t s x g = some (l,m',g')) : St I X E g g' m m' ∧
  (Good I X E g' → truth (pc.val E) = true → ∀ O ρ w vs vx,M O ρ E m.bs w → WF m → Fresh ρ m.nb m'.nb → s.sat ρ E vs → x.sat ρ E vx → ∃ ρ' u w',(Builtin.append_ #[t,tx] ty #[vs,vx]).run P w = .ok u w' ∧ l.sat ρ' E u ∧ M O ρ' E m'.bs w' ∧ Ext ρ ρ' m m' w w') := by
 unfold evAppM at h
 split at h
 ·rename_i c a b
  split at h
  ·rename_i s1 m1 g1 hm
   split at h
   ·rename_i l2 m2 g2 h2
    injection h with h; injection h with e1 e; injection e with e2 e3; subst e1; subst e2; subst e3
    obtain ⟨a1,_,_,_⟩ := mergeL_ok (O := ⟨fun _ _ _ _=>True,fun _ _ _=>trivial⟩) (I := I) (X := X) (E := E) (ρ := fun _=>none) (w := default) hm
    obtain ⟨b1,b2⟩ := evAppO_ok (P := P) (I := I) (X := X) (E := E) (ty := ty) hk h2
    refine ⟨a1.trans b1,fun H hp O ρ w vs vx hM hW hfr hs hv=>?_⟩
    obtain ⟨_,hnb,_,a2⟩ := mergeL_ok (O := O) (I := I) (X := X) (E := E) (ρ := ρ) (w := w) hm
    have hn : ρ m.nb = none := hfr m.nb (Nat.le_refl _) (by have := b1.nb; omega)
    obtain ⟨i,k1,k2,k3⟩ := a2 (b1.good H) hM hW hn
    obtain ⟨ρ',u,w',r1,r2,r3,r4⟩ := b2 H hp O _ w vs vx k1 (a1.wf hW) (hfr.step k2 a1) (k3 vs (Leaf.mono k2.le _ hs)) (Leaf.mono k2.le _ hv)
    exact ⟨ρ',u,w',r1,r2,r3,k2.trans r4 a1 b1 (hfr.sub (Nat.le_refl _) b1.nb)⟩
   ·cases h
  ·cases h
 ·exact evAppO_ok hk h
theorem run_cut {e z : Nat} {lo hi mx : Option Nat} {vl vh vm : Option Value} (hl : OVal lo vl) (hh : OVal hi vh) (hm : OVal mx vm) (h3 : mx ≠ none → hi ≠ none) (hsz : sizeT T e = some z) {t : TypeId} (ht : P.underlying t = some (.slice e))
  {base : Option Addr} {len cap : Nat} (c1 : mx.getD cap ≤ cap) (c2 : hi.getD len ≤ mx.getD cap) (c3 : lo.getD 0 ≤ hi.getD len) (w : World) :
  (Instr.sliceAt t (.slice base len cap) vl vh vm).run P w = .ok (.slice (if mx.getD cap = lo.getD 0 then base else base.map (·.add (lo.getD 0 * z))) (hi.getD len - lo.getD 0) (mx.getD cap - lo.getD 0)) w := by
 unfold Instr.sliceAt
 simp only [Sem.run_bind,run_under ht w,Result.andThen_ok]
 unfold Instr.slice
 simp only [Sem.run_bind,run_under ht w,Result.andThen_ok,run_bounds hl hh hm h3 c1 c2 c3,run_sizeT hsz w,Sem.run_pure]
theorem SlOk.from {z q len cap : Nat} {a : Option Addr} {L : Loc} (h : SlOk z L w) (hv : L.val = .slice a len cap) (hq : q ≤ len) : SlOk z ⟨L.n,L.tot,L.own,.slice (if cap = q then a else a.map (·.add (q * z))) (len - q) (cap - q)⟩ w := by
 obtain ⟨a',len',cap',hv',hlc,h3⟩ := h
 rw [hv] at hv'
 injection hv' with e1 e2 e3
 subst e1; subst e2; subst e3
 refine ⟨_,_,_,rfl,by omega,?_⟩
 rcases h3 with ⟨rfl,hc⟩ | ⟨b,off,rfl,h3⟩
 ·exact .inl ⟨by simp,by omega⟩
 ·by_cases hcq : cap = q
  ·rw [if_pos hcq]
   exact .inr ⟨b,off,rfl,.inl (by omega)⟩
  ·rw [if_neg hcq]
   rcases h3 with hc | ⟨ho,t,cs,hh,hle,hp⟩
   ·omega
   ·refine .inr ⟨b,off + q * z,by simp only [Option.map_some]; rw [Addr.add_mid],.inr ⟨ho,t,cs,hh,?_,hp⟩⟩
    have : q * z + (cap - q) * z = cap * z := by rw [← Nat.add_mul]; congr 1; omega
    omega
theorem SlOk.none_ {z len cap : Nat} {a : Option Addr} {L : Loc} (h : SlOk z L w) (hv : L.val = .slice a len cap) : SlOk z ⟨0,0,fun _=>False,.slice a 0 0⟩ w := by
 obtain ⟨a',len',cap',hv',hlc,h3⟩ := h
 rw [hv] at hv'
 injection hv' with e1 e2 e3
 subst e1; subst e2; subst e3
 refine ⟨_,_,_,rfl,Nat.le_refl _,?_⟩
 rcases h3 with ⟨rfl,hc⟩ | ⟨b,off,rfl,h3⟩
 ·exact .inl ⟨rfl,rfl⟩
 ·exact .inr ⟨b,off,rfl,.inl rfl⟩
end
section
variable {P : Program} {T : Tys} [TyOk P T] {O : Objs} {I : Nat → Int} {X : Nat → List Int → Int} {ρ : Map} {E : Nat → Int} {w w' : World} {m m' : Mem} {g g' : Gl}
def OpRan (P : Program) (O : Objs) (E : Nat → Int) (ρ : Map) (m m' : Mem) (w : World) (v : SV) (s : Go.Sem Next) : Prop :=
 ∃ ρ' u w',(s.run P w = .ok (.value u) w' ∨ (s.run P w = .ok .skip w' ∧ u = undef)) ∧ v.sat ρ' E u ∧ M O ρ' E m'.bs w' ∧ Ext ρ ρ' m m' w w'
theorem OpRan.still {v : SV} {s : Go.Sem Value} {u : Value} (hM : M O ρ E m.bs w) (hr : s.run P w = .ok u w) (hs : v.sat ρ E u) : OpRan P O E ρ m m w v (do pure (.value (← s))) :=
 ⟨ρ,u,w,.inl (by simp only [Sem.run_bind,hr,Result.andThen_ok,Sem.run_pure]),hs,hM,Ext.rfl'⟩
theorem OpRan.val {v : SV} {u : Value} (hM : M O ρ E m.bs w) (hs : v.sat ρ E u) : OpRan P O E ρ m m w v (pure (.value u)) :=
 ⟨ρ,u,w,.inl rfl,hs,hM,Ext.rfl'⟩
theorem OpRan.fresh {t : TypeId} {ls : List Leaf} {vs : List Value} {s : Go.Sem Value} {v : SV} {u : Value} (hM : M O ρ E m.bs w) (hW : WF m) (hf : Fresh ρ m.nb (m.nb + 1)) (hs : sats ρ E ls vs)
  (hr : s.run P w = .ok u { w with heap := w.heap.push (.cells vs.toArray t) }) (hv : ∀ ρ' L,ρ' m.nb = some L → L.n = w.heap.size → v.sat ρ' E u) : OpRan P O E ρ m (newB m t ls) w v (do pure (.value (← s))) := by
 obtain ⟨ρ',r1,r2,r3⟩ := alloc_ok (w' := { w with heap := w.heap.push (.cells vs.toArray t) }) (t := t) hM hW (hf _ (Nat.le_refl _) (Nat.lt_succ_self _)) hs rfl ((Go.RowKit.Below.refl 0 w).alloc (Nat.zero_le _) (.cells vs.toArray t))
 exact ⟨ρ',u,_,.inl (by simp only [Sem.run_bind,hr,Result.andThen_ok,Sem.run_pure]),hv ρ' _ r1 rfl,r2,r3⟩
theorem fieldT_ok {t : TypeId} {f d : Nat} {u : TypeId} (h : fieldT T t f = some (d,u)) : ∃ fs x,P.underlying t = some (.struct fs) ∧ fs[f]? = some x ∧ x.offset = d ∧ x.type = u := by
 unfold fieldT at h
 split at h
 ·rename_i fs hu
  cases hx : fs[f]? with
  | none=>rw [hx] at h; cases h
  | some x =>
   rw [hx] at h
   simp only [Option.map_some,Option.some.injEq,Prod.mk.injEq] at h
   exact ⟨fs,x,und_ok hu,hx,h.1,h.2⟩
 ·cases h
theorem places_ok : ∀ {fs : List Field} {ps : List (Nat × Nat)},fs.mapM (fun f=>(T f.type).map fun i=>(f.offset,i.info.size)) = some ps → fs.mapM (fun f=>(P.info? f.type).map fun i=>(f.offset,i.size)) = some ps
 | [],ps,h=>by simpa using h
 | f :: fs,ps,h=>by
  simp only [List.mapM_cons] at h ⊢
  cases hi : T f.type with
  | none=>simp [hi] at h
  | some i =>
   rw [hi] at h
   rw [(TyOk.ok f.type i hi).2]
   cases hr : fs.mapM (fun f=>(T f.type).map fun i=>(f.offset,i.info.size)) with
   | none=>simp [hr] at h
   | some qs=>rw [places_ok hr]; simpa [hr] using h
theorem run_fieldAt {t : TypeId} {f d sz : Nat} {u : TypeId} {n off : Nat} (h : fieldT T t f = some (d,u)) (hs : sizeT T u = some (sz + 1)) (w : World) :
  (Instr.fieldAt t (.pointer (some ⟨n,off,none⟩)) f).run P w = .ok (.pointer (some ⟨n,off + d,none⟩)) w := by
 obtain ⟨fs,x,h1,h2,rfl,rfl⟩ := fieldT_ok (P := P) h
 unfold Instr.fieldAt
 simp only [Sem.run_bind,run_under h1 w,Result.andThen_ok,h2,Instr.sureAddr,Sem.run_pure,fieldPlace,run_sizeT hs w]
 simp [Addr.add_mid]
theorem run_field {t : TypeId} {f d : Nat} {u : TypeId} {cs : Array Value} {v : Value} (h : fieldT T t f = some (d,u)) (hp : (part u cs d).run P w = .ok v w) : (Instr.field t (.agg cs) f).run P w = .ok v w := by
 obtain ⟨fs,x,h1,h2,rfl,rfl⟩ := fieldT_ok (P := P) h
 unfold Instr.field
 simp only [Sem.run_bind,run_under h1 w,Result.andThen_ok,h2,asAgg,Sem.run_pure,hp]
theorem run_indexS {t e : TypeId} {z len cap : Nat} {a : Addr} {k : IntKind} {j : Int} (ht : P.underlying t = some (.slice e)) (hz : sizeT T e = some z) (h0 : 0 ≤ j) (h1 : j < len) (w : World) :
  (Instr.indexAt t (.slice (some a) len cap) (.int k j)).run P w = .ok (.pointer (some (a.add (j.toNat * z)))) w := by
 unfold Instr.indexAt
 simp only [asIntOf,Sem.run_bind,Sem.run_pure,run_under ht w,Result.andThen_ok]
 rw [if_pos ⟨h0,h1⟩]
 simp only [Sem.run_bind,run_sizeT hz w,Result.andThen_ok,Sem.run_pure]
theorem run_indexA {t e : TypeId} {z len : Nat} {a : Addr} {k : IntKind} {j : Int} (ht : P.underlying t = some (.array len e)) (hz : sizeT T e = some z) (h0 : 0 ≤ j) (h1 : j < len) (w : World) :
  (Instr.indexAt t (.pointer (some a)) (.int k j)).run P w = .ok (.pointer (some (a.add (j.toNat * z)))) w := by
 unfold Instr.indexAt
 simp only [asIntOf,Sem.run_bind,Sem.run_pure,run_under ht w,Result.andThen_ok,Instr.sureAddr]
 rw [if_pos ⟨h0,h1⟩]
 simp only [Sem.run_bind,run_sizeT hz w,Result.andThen_ok,Sem.run_pure]
theorem run_indexV {t e : TypeId} {z len : Nat} {cs : Array Value} {k : IntKind} {j : Int} {v : Value} (ht : P.underlying t = some (.array len e)) (hz : sizeT T e = some z) (h0 : 0 ≤ j) (h1 : j < len)
  (hp : (part e cs (j.toNat * z)).run P w = .ok v w) : (Instr.index t (.agg cs) (.int k j)).run P w = .ok v w := by
 unfold Instr.index
 simp only [asIntOf,Sem.run_bind,Sem.run_pure,run_under ht w,Result.andThen_ok]
 rw [if_pos ⟨h0,h1⟩]
 simp only [Sem.run_bind,run_sizeT hz w,Result.andThen_ok,hp]
theorem satA_get : ∀ {xs : List SA} {vs : List Value},satA ρ E xs vs → ∀ {i : Nat} {x : SA},xs[i]? = some x → ∃ v,vs[i]? = some v ∧ x.sat ρ E v
 | x :: xs,v :: vs,h,0,y,hy=>⟨v,rfl,by
   obtain rfl : x = y := by simpa using hy
   exact h.1⟩
 | x :: xs,v :: vs,h,i + 1,y,hy=>by simpa using satA_get h.2 (by simpa using hy)
 | [],_,_,i,y,hy=>by simp at hy
 | _ :: _,[],h,_,_,_=>h.elim
theorem caps_ok {ev : Ev} {a : Act} {ops : List Operand} : ∀ {xs : List Operand} {ls : List Leaf},(∀ x ∈ xs,x ∈ ops) → EvOk ρ E ev a ops → evList (xs.map (ev1 ev)) = some ls → (capsTo ls).satc ρ E (xs.map a.eval)
 | [],ls,_,_,h=>by
  obtain rfl : [] = ls := by simpa [evList] using h
  rfl
 | x :: xs,ls,hx,ho,h=>by
  simp only [List.map_cons,evList] at h
  split at h
  ·rename_i l hl
   split at h
   ·rename_i ks hk
    injection h with h; subst h
    exact ⟨ho.one (hx x (by simp)) hl,caps_ok (fun y hy=>hx y (by simp [hy])) ho hk⟩
   ·cases h
  ·cases h
theorem part_alt {e : TypeId} {vs : List Value} {off : Nat} {z : SA} (h : (∃ sz,isAggT T e = some true ∧ sizeT T e = some sz ∧ off + sz ≤ vs.length ∧ z.sat ρ E (.agg ((vs.drop off).take sz).toArray)) ∨ (isAggT T e = some false ∧ ∃ v,vs[off]? = some v ∧ z.sat ρ E v)) (w : World) :
  ∃ v,(part e vs.toArray off).run P w = .ok v w ∧ z.sat ρ E v := by
 rcases h with ⟨sz,ha,hs,hle,hz⟩ | ⟨ha,v,hv,hz⟩
 ·refine ⟨_,?_,hz⟩
  unfold part
  simp only [Sem.run_bind,run_isAggT ha w,run_sizeT hs w,Result.andThen_ok,if_true,Sem.run_pure]
  congr 2
  simp [List.extract_toArray]
 ·refine ⟨v,?_,hz⟩
  unfold part
  simp only [Sem.run_bind,run_isAggT ha w,Result.andThen_ok]
  simp [hv]
theorem OVal.of {ev : Ev} {a : Act} {xs : List Operand} (ho : EvOk ρ E ev a xs) {x : Option Operand} (hx : ∀ y,x = some y → y ∈ xs) {q : Option Nat} (h : litO ev x = some q) : OVal q (x.map a.eval) := by
 rcases litO_ok ho hx h with ⟨rfl,rfl⟩ | ⟨y,n,k,rfl,rfl,e⟩
 ·exact .inl ⟨rfl,rfl⟩
 ·exact .inr ⟨n,k,rfl,by simp [e]⟩
def OpOk (I : Nat → Int) (X : Nat → List Int → Int) (E : Nat → Int) (C : Cx) (ev : Ev) (m m' : Mem) (pc : Ref) (g g' : Gl) (o : Oper) (v : SV) : Prop :=
 St I X E g g' m m' ∧ (Good I X E g' → ∀ O ρ a w,EvOk ρ E ev a o.op.operands.toList → M O ρ E m.bs w → WF m → truth (pc.val E) = true → Fresh ρ m.nb m'.nb → OpRan C.P O E ρ m m' w v (execOp a.eval o))
theorem mapv {α β : Type} {x : Option α} {f : α → β} {y : β} (h : x.map f = some y) : ∃ z,x = some z ∧ f z = y := by
 cases x with
 | none=>cases h
 | some z=>exact ⟨z,rfl,by simpa using h⟩
variable {C : Cx} [TyOk C.P C.T] {ev : Ev} {pc : Ref} {v : SV} {dst : Option Tmp} {type : TypeId} {pos : String} {after : Array Edge} {guard : Option (Nat × Bool)}
omit [TyOk C.P C.T] in
theorem op_move {x : Operand} (h : evOp C ev m pc g ⟨dst,.move x,type,pos,after,guard⟩ = some (v,m',g')) : OpOk I X E C ev m m' pc g g' ⟨dst,.move x,type,pos,after,guard⟩ v := by
 obtain ⟨z,hz,e⟩ := mapv h
 injection e with e1 e; injection e with e2 e3; subst e1; subst e2; subst e3
 exact ⟨St.rfl',fun _ O ρ a w ho hM _ _ _=>OpRan.val hM (ho x (by simp [Op.operands]) _ hz)⟩
omit [TyOk C.P C.T] in
theorem op_assign {x : Operand} (h : evOp C ev m pc g ⟨dst,.assign x,type,pos,after,guard⟩ = some (v,m',g')) : OpOk I X E C ev m m' pc g g' ⟨dst,.assign x,type,pos,after,guard⟩ v := by
 obtain ⟨z,hz,e⟩ := mapv h
 injection e with e1 e; injection e with e2 e3; subst e1; subst e2; subst e3
 exact ⟨St.rfl',fun _ O ρ a w ho hM _ _ _=>OpRan.val hM (ho x (by simp [Op.operands]) _ hz)⟩
omit [TyOk C.P C.T] in
theorem op_pick {c x y : Operand} (h : evOp C ev m pc g ⟨dst,.pick c x y,type,pos,after,guard⟩ = some (v,m',g')) : OpOk I X E C ev m m' pc g g' ⟨dst,.pick c x y,type,pos,after,guard⟩ v := by
 simp only [evOp,evO_pick] at h
 split at h
 ·rename_i n va vb h1 h2 h3
  injection h with h; injection h with e1 e; injection e with e2 e3; subst e1; subst e2; subst e3
  refine ⟨St.rfl',fun _ O ρ a w ho hM _ _ _=>?_⟩
  have hc := ho.one (x := c) (by simp [Op.operands]) h1
  simp only [Leaf.sat] at hc
  have ha := ho x (by simp [Op.operands]) _ h2
  have hb := ho y (by simp [Op.operands]) _ h3
  refine ⟨ρ,if truth n then a.eval x else a.eval y,w,.inl ?_,?_,hM,Ext.rfl'⟩
  ·simp only [execOp,hc,asBool,Ref.val,Sem.run_bind,Sem.run_pure,Result.andThen_ok]
  ·split <;> assumption
 ·rename_i r va vb hn h1 h2 h3
  split at h
  ·rename_i xa xb hxa hxb
   split at h
   ·rename_i z g1 hj
    injection h with h; injection h with e1 e; injection e with e2 e3; subst e1; subst e2; subst e3
    refine ⟨St.of_good fun H=>(joinA_ok hj H).1,fun H O ρ a w ho hM _ _ _=>?_⟩
    have hc := ho.one (x := c) (by simp [Op.operands]) h1
    simp only [Leaf.sat] at hc
    have ha := ho x (by simp [Op.operands]) _ h2
    have hb := ho y (by simp [Op.operands]) _ h3
    have ha' : truth (r.val E) = true → xa.sat ρ E (a.eval x) := fun ht=>by
     split at hxa
     ·injection hxa with e; subst e; exact ha
     ·split at hxa
      ·rename_i hq; injection hxa with e; subst e; exact ha.1 (by rw [hq]; simp [allC,ht])
      ·cases hxa
     ·cases hxa
    have hb' : truth (r.val E) = false → xb.sat ρ E (a.eval y) := fun ht=>by
     split at hxb
     ·injection hxb with e; subst e; exact hb
     ·split at hxb
      ·rename_i hq; injection hxb with e; subst e; exact hb.1 (by rw [hq]; simp [allC,ht])
      ·cases hxb
     ·cases hxb
    have hz := (joinA_ok hj H).2 z rfl ρ (if truth (r.val E) then a.eval x else a.eval y) (fun ht=>by rw [if_pos ht]; exact ha' ht) (fun hf=>by rw [if_neg (by rw [hf]; simp)]; exact hb' hf)
    refine ⟨ρ,_,w,.inl ?_,hz,hM,Ext.rfl'⟩
    simp only [execOp,hc,asBool,Sem.run_bind,Sem.run_pure,Result.andThen_ok]
   ·cases h
  ·cases h
 ·cases h
theorem op_alloc {t : TypeId} (h : evOp C ev m pc g ⟨dst,.alloc t,type,pos,after,guard⟩ = some (v,m',g')) : OpOk I X E C ev m m' pc g g' ⟨dst,.alloc t,type,pos,after,guard⟩ v := by
 obtain ⟨z,hz,e⟩ := mapv h
 injection e with e1 e; injection e with e2 e3; subst e1; subst e2; subst e3
 refine ⟨St.newB,fun _ O ρ a w ho hM hW _ hf=>?_⟩
 obtain ⟨i,zv,hi,hiz,rfl⟩ := zeroT_ok (P := C.P) hz
 refine OpRan.fresh (s := Instr.alloc t true (.tuple #[])) hM hW hf (leafs_ok zv.cells.toList) (u := .pointer (some ⟨w.heap.size,0,none⟩)) ?_ (fun ρ' L hL e=>⟨L,hL,by rw [e]⟩)
 simp [Instr.alloc,zeroValue,typeInfo,hi,hiz,newVar,newRow,newObj,Sem.run]
omit [TyOk C.P C.T] in
theorem op_box {t : TypeId} {x : Operand} (h : evOp C ev m pc g ⟨dst,.box t x,type,pos,after,guard⟩ = some (v,m',g')) : OpOk I X E C ev m m' pc g g' ⟨dst,.box t x,type,pos,after,guard⟩ v := by
 simp only [evOp,evO_box] at h
 split at h
 ·rename_i z hz
  split at h
  ·rename_i hs
   injection h with h; injection h with e1 e; injection e with e2 e3; subst e1; subst e2; subst e3
   refine ⟨St.newB,fun _ O ρ a w ho hM hW _ hf=>?_⟩
   have hx := ho.agg (x := x) (by simp [Op.operands]) hz
   refine OpRan.fresh (s := Instr.box t (a.eval x)) hM hW hf (solid_cells hs hx).1 (u := .pointer (some ⟨w.heap.size,0,none⟩)) ?_ (fun ρ' L hL e=>⟨L,hL,by rw [e]⟩)
   simp [Instr.box,newVar,newRow,newObj,Sem.run]
  ·cases h
 ·cases h
theorem op_build {t : TypeId} {ps : Array (Nat × Operand)} (h : evOp C ev m pc g ⟨dst,.build t ps,type,pos,after,guard⟩ = some (v,m',g')) : OpOk I X E C ev m m' pc g g' ⟨dst,.build t ps,type,pos,after,guard⟩ v := by
 simp only [evOp,evO_build,fillX_eq] at h
 split at h
 ·rename_i z qs hz hq
  obtain ⟨i,zv,hi,hiz,rfl⟩ := zeroT_ok (P := C.P) hz
  split at h
  ·rename_i fs hu
   replace hu := und_ok (P := C.P) hu
   split at h
   ·rename_i places hpl
    split at h
    ·rename_i cs hcs
     injection h with h; injection h with e1 e; injection e with e2 e3; subst e1; subst e2; subst e3
     refine ⟨St.rfl',fun _ O ρ a w ho hM hW _ hf=>?_⟩
     have hp := partsOf_ok (ρ := ρ) (E := E) (a := a) (f := fun x=>(x.1,a.eval x.2)) (fun _ _=>rfl) hq fun y hy=>ho y (by simpa [Op.operands] using hy)
     obtain ⟨cv,k1,k2,k3,k4⟩ := fill_ok hcs hp (leafs_ok zv.cells.toList) (by simp)
     simp only [execOp]
     refine OpRan.still (v := .a (.agg cs)) (u := .agg cv.toArray) hM (run_build w t _ cv.toArray ?_) ⟨cv,rfl,k3.symm,k2⟩
     unfold Program.built
     simp only [hi,hu,hiz,places_ok (P := C.P) hpl,Array.toList_map]
     rw [← k1]
     congr 1
     funext j
     simp
    ·cases h
   ·cases h
  ·rename_i n e hu
   replace hu := und_ok (P := C.P) hu
   split at h
   ·rename_i sz hsz
    split at h
    ·rename_i cs hcs
     injection h with h; injection h with e1 e; injection e with e2 e3; subst e1; subst e2; subst e3
     refine ⟨St.rfl',fun _ O ρ a w ho hM hW _ hf=>?_⟩
     have hp := partsOf_ok (ρ := ρ) (E := E) (a := a) (f := fun x=>(x.1,a.eval x.2)) (fun _ _=>rfl) hq fun y hy=>ho y (by simpa [Op.operands] using hy)
     obtain ⟨cv,k1,k2,k3,k4⟩ := fill_ok hcs hp (leafs_ok zv.cells.toList) (by simp)
     simp only [execOp]
     refine OpRan.still (v := .a (.agg cs)) (u := .agg cv.toArray) hM (run_build w t _ cv.toArray ?_) ⟨cv,rfl,k3.symm,k2⟩
     obtain ⟨ie,hie,hes⟩ := sizeT_ok (P := C.P) hsz
     unfold Program.built
     simp only [hi,hu,hiz,hie,hes,Array.toList_map]
     rw [← k1]
    ·cases h
   ·cases h
  ·cases h
 ·cases h
theorem op_buildSlice {t : TypeId} {len : Nat} {ps : Array (Nat × Operand)} (h : evOp C ev m pc g ⟨dst,.buildSlice t len ps,type,pos,after,guard⟩ = some (v,m',g')) : OpOk I X E C ev m m' pc g g' ⟨dst,.buildSlice t len ps,type,pos,after,guard⟩ v := by
 simp only [evOp,evO_buildSlice,fillX_eq] at h
 split at h
 ·rename_i e hu
  replace hu := und_ok (P := C.P) hu
  split at h
  ·rename_i n z qs hn hz hq
   split at h
   ·rename_i hc
    split at h
    ·rename_i cs hcs
     injection h with h; injection h with e1 e; injection e with e2 e3; subst e1; subst e2; subst e3
     refine ⟨St.newB,fun _ O ρ a w ho hM hW _ hf=>?_⟩
     have hp := partsOf_ok (ρ := ρ) (E := E) (a := a) (f := fun x=>(x.1,a.eval x.2)) (fun _ _=>rfl) hq fun y hy=>ho y (by simpa [Op.operands] using hy)
     obtain ⟨cv,k1,k2⟩ := run_buildSlice (ρ := ρ) (E := E) hu hn hz hc.1 hc.2.1 hc.2.2 hcs hp w
     simp only [execOp]
     refine OpRan.fresh hM hW hf k2 (u := .slice (some ⟨w.heap.size,0,none⟩) len len) ?_ (fun ρ' L hL e=>⟨L,hL,by rw [e]⟩)
     rw [← k1]
     congr 2
     apply Array.ext'
     simp only [Array.toList_map]
    ·cases h
   ·cases h
  ·cases h
 ·cases h
theorem op_makeSlice {t : TypeId} {l c : Operand} (h : evOp C ev m pc g ⟨dst,.makeSlice t l c,type,pos,after,guard⟩ = some (v,m',g')) : OpOk I X E C ev m m' pc g g' ⟨dst,.makeSlice t l c,type,pos,after,guard⟩ v := by
 simp only [evOp,evO_makeSlice] at h
 split at h
 ·rename_i e nl nc hu hl hc
  replace hu := und_ok (P := C.P) hu
  split at h
  ·rename_i n z by_ hn hz hb
   split at h
   ·rename_i hcond
    injection h with h; injection h with e1 e; injection e with e2 e3; subst e1; subst e2; subst e3
    refine ⟨St.newB,fun _ O ρ a w ho hM hW _ hf=>?_⟩
    obtain ⟨k1,hk1⟩ := lit1_ok ho (x := l) (by simp [Op.operands]) hl
    obtain ⟨k2,hk2⟩ := lit1_ok ho (x := c) (by simp [Op.operands]) hc
    obtain ⟨cv,r1,r2⟩ := run_makeSlice (ρ := ρ) (E := E) (k1 := k1) (k2 := k2) hu hn hz hb hcond.1 hcond.2.1 hcond.2.2.2.1 hcond.2.2.2.2.1 hcond.2.2.2.2.2 w
    refine OpRan.fresh (s := Instr.makeSlice t (a.eval l) (a.eval c)) hM hW hf r2 ?_ (fun ρ' L hL e=>⟨L,hL,by rw [e]⟩)
    rw [hk1,hk2,r1]
   ·cases h
  ·cases h
 ·cases h
theorem op_slice0 {t : TypeId} {x : Operand} {lo hi mx : Option Operand} (h : evO_slice C ev m pc g t x lo hi mx = some (v,m',g')) : OpOk I X E C ev m m' pc g g' ⟨dst,.slice t x lo hi mx,type,pos,after,guard⟩ v := by
 simp only [evO_slice] at h
 split at h
 ·cases h
 ·rename_i hmx
  split at h
  ·rename_i ql qh qm h1 h2 h3
   have h3' : ∀ {ev : Ev} {lo hi mx : Option Operand},litO ev hi = some qh → litO ev mx = some qm → ¬ (mx.isSome && hi.isNone) = true → qm ≠ none → qh ≠ none := fun {ev lo hi mx} e2 e3 hc hq=>by
    cases mx with
    | none=>simp [litO] at e3; exact absurd e3.symm hq
    | some y=>cases hi with
     | none=>simp at hc
     | some z =>
      simp only [litO] at e2
      split at e2
      ·injection e2 with e2; subst e2; simp
      ·cases e2
   have hq := h3' (lo := lo) h2 h3 hmx
   split at h
   ·rename_i e l hu hl
    replace hu := und_ok (P := C.P) hu
    split at h
    ·rename_i z hz
     split at h
     ·rename_i l' hcut
      injection h with h; injection h with e1 e; injection e with e2 e3; subst e1; subst e2; subst e3
      refine ⟨St.rfl',fun _ O ρ a w ho hM hW _ hf=>?_⟩
      have o1 := OVal.of ho (x := lo) (fun y hy=>by simp [Op.operands,hy]) h1
      have o2 := OVal.of ho (x := hi) (fun y hy=>by simp [Op.operands,hy]) h2
      have o3 := OVal.of ho (x := mx) (fun y hy=>by simp [Op.operands,hy]) h3
      obtain ⟨u,k1,k2⟩ := cutL_ok hcut o1 o2 o3 hq hz hu (ho.one (x := x) (by simp [Op.operands]) hl) w
      exact OpRan.still hM k1 k2
     ·cases h
    ·cases h
   ·rename_i n e id off hu hl
    replace hu := und_ok (P := C.P) hu
    split at h
    ·rename_i z hz
     split at h
     ·rename_i l' hcut
      injection h with h; injection h with e1 e; injection e with e2 e3; subst e1; subst e2; subst e3
      refine ⟨St.rfl',fun _ O ρ a w ho hM hW _ hf=>?_⟩
      have o1 := OVal.of ho (x := lo) (fun y hy=>by simp [Op.operands,hy]) h1
      have o2 := OVal.of ho (x := hi) (fun y hy=>by simp [Op.operands,hy]) h2
      have o3 := OVal.of ho (x := mx) (fun y hy=>by simp [Op.operands,hy]) h3
      obtain ⟨u,k1,k2⟩ := cutA_ok hcut o1 o2 o3 hq hz hu (ho.one (x := x) (by simp [Op.operands]) hl) w
      exact OpRan.still hM k1 k2
     ·cases h
    ·cases h
   ·cases h
  ·cases h
theorem op_cutL {t : TypeId} {x : Operand} {xl : Leaf} {lo hi mx : Option Operand} (h : evO_cutL C ev m pc g t xl lo hi mx = some (v,m',g')) : St I X E g g' m m' ∧
  (Good I X E g' → ∀ O ρ a w,EvOk ρ E ev a (Op.slice t x lo hi mx).operands.toList → xl.sat ρ E (a.eval x) → M O ρ E m.bs w → WF m → truth (pc.val E) = true → Fresh ρ m.nb m'.nb → OpRan C.P O E ρ m m' w v (execOp a.eval ⟨dst,.slice t x lo hi mx,type,pos,after,guard⟩)) := by
 unfold evO_cutL at h
 split at h
 ·rename_i e id n hu
  replace hu := und_ok (P := C.P) hu
  split at h
  ·rename_i z hz
   split at h
   ·rename_i hk
    split at h
    ·rename_i yh ym
     split at h
     ·rename_i ql h1 h2 h3
      split at h
      ·rename_i hq0
       injection h with h; injection h with e1 e; injection e with e2 e3; subst e1; subst e2; subst e3
       have hst := St.objStep (I := I) (X := X) (E := E) (g := g) (g' := g) (m := m) (kp := fun _=>true) (ls := []) (ob := some (1000 + z)) fun H=>H
       have hfl : m.bs.filter (fun b=>(fun _ : Nat=>true) b.id) = m.bs := List.filter_eq_self.2 fun _ _=>rfl
       rw [hfl] at hst
       refine ⟨hst,fun _ O ρ a w ho hxl hM hW _ hf=>?_⟩
       have o1 := OVal.of ho (x := lo) (fun y hy=>by simp [Op.operands,hy]) h1
       have o2 := OVal.of ho (x := some yh) (fun y hy=>by simp [Op.operands,hy]) h2
       have o3 := OVal.of ho (x := some ym) (fun y hy=>by simp [Op.operands,hy]) h3
       obtain ⟨L,hL,hv,ad,len,cap,he,hn⟩ := hxl
       obtain ⟨k1,k2⟩ := objK_sl hM hk hL
       have hLv : L.val = .slice ad len cap := by rw [← hv]; exact he
       have hrun := run_cut (P := C.P) o1 o2 o3 (by simp) hz hu (base := ad) (len := len) (cap := cap) (by simp) (by simp) (by rw [hq0]; simp) w
       simp only [hq0,Option.getD_some,if_true,Nat.sub_self] at hrun
       have hblk : Blk O (more ρ m.nb ⟨0,0,fun _=>False,.slice ad 0 0⟩) E ⟨m.nb,[],[],some (1000 + z)⟩ w := ⟨_,[],more_self,trivial,by
        simp only [Objs.re]
        rw [if_pos (by omega),show 1000 + z - 1000 = z by omega]
        exact k1.none_ hLv⟩
       have hs := objStep (kp := fun _=>true) (D := fun _=>False) hM hW (hf _ (Nat.le_refl _) (Nat.lt_succ_self _)) hblk (fun y hy=>hy.elim) (fun y hy=>hy.elim) (fun _ _ _ _ _ _ _ _ h=>h) (fun y hy=>hy.elim) (Nat.le_refl _) (fun _ _ _=>rfl) (Go.RowKit.Below.refl 0 w)
       rw [hfl] at hs
       refine ⟨_,_,w,.inl ?_,⟨_,more_self,rfl,ad,0,0,rfl,rfl⟩,hs.1,hs.2⟩
       have hx : a.eval x = .slice ad len cap := he
       simp only [execOp,hx]
       simp only [Sem.run_bind,hrun,Result.andThen_ok,Sem.run_pure]
      ·cases h
     ·cases h
    ·split at h
     ·rename_i y
      split at h
      ·rename_i kk r hr
       split at h
       ·rename_i k hless
        rcases h1 : g.bin .geq .i64 r (.c 0) with ⟨a1,g1⟩
        simp only [h1] at h
        rcases h3 : (g1.must pc a1).bin .leq .i64 n (.c 1048576) with ⟨a3,g3⟩
        simp only [h3] at h
        injection h with h; injection h with e1 e; injection e with e2 e3; subst e1; subst e2; subst e3
        have hgood : Good I X E (g3.must pc a3) → Good I X E g3 ∧ Good I X E (g1.must pc a1) ∧ Good I X E g1 ∧ Good I X E g := fun H=>by
         have H2 := (must_ok H).1
         have H3 := (bin_ok h3 H2).1
         have H4 := (must_ok H3).1
         exact ⟨H2,H3,H4,(bin_ok h1 H4).1⟩
        refine ⟨St.objStep fun H=>(hgood H).2.2.2,fun H O ρ a w ho hxl hM hW hp hf=>?_⟩
        obtain ⟨H2,H3,H4,H0⟩ := hgood H
        obtain ⟨L,hL,hv,ad,len,cap,he,hn⟩ := hxl
        obtain ⟨k1,k2⟩ := objK_sl hM hk hL
        have hLv : L.val = .slice ad len cap := by rw [← hv]; exact he
        have hy : a.eval y = .int kk (r.val E) := ho.one (x := y) (by simp [Op.operands]) hr
        have b1 := (must_ok H3).2 hp
        rw [(bin_ok h1 H4).2] at b1
        have b3 := (must_ok H).2 hp
        rw [(bin_ok h3 H2).2] at b3
        simp only [intSem,truth_ofB,decide_eq_true_eq] at b1 b3
        rw [hn] at b3
        replace b1 : 0 ≤ r.val E := b1
        replace b3 : (len : Int) ≤ 1048576 := b3
        have hrk : r.val E = (len : Int) - k ∧ 0 ≤ k := by
         unfold lessK at hless
         split at hless
         ·rename_i i
          split at hless
          ·rename_i x' k' hd
           split at hless
           ·rename_i hc
            injection hless with hless; subst hless
            have hdv := at_ok H0 hd
            have hxn := Ref.same_ok hc.1
            subst hxn
            refine ⟨?_,hc.2.1⟩
            show E i = _
            rw [hdv]
            have hn' : x'.val E = (len : Nat) := hn
            show IntKind.i64.wrap (x'.val E - (Ref.c k').val E) = _
            rw [hn']
            show IntKind.i64.wrap ((len : Int) - k') = _
            simp [IntKind.wrap,IntKind.bits,IntKind.signed]
            have := hc.2
            omega
           ·cases hless
          ·cases hless
         ·cases hless
        obtain ⟨qn,hqn⟩ : ∃ qn : Nat,r.val E = qn := ⟨(r.val E).toNat,by omega⟩
        have hqle : qn ≤ len := by omega
        have hlc : len ≤ cap := by
         obtain ⟨a',len',cap',hv',hlc,_⟩ := k1
         rw [hLv] at hv'
         injection hv' with e1 e2 e3
         omega
        have o1 : OVal (some qn) (some (a.eval y)) := .inr ⟨qn,kk,rfl,by rw [hy,hqn]⟩
        have hrun := run_cut (P := C.P) o1 (.inl ⟨rfl,rfl⟩ : OVal none none) (.inl ⟨rfl,rfl⟩ : OVal none none) (by simp) hz hu (base := ad) (len := len) (cap := cap) (by simp) (by simpa using hlc) (by simpa using hqle) w
        simp only [Option.getD_some,Option.getD_none] at hrun
        have hblk : Blk O (more ρ m.nb ⟨L.n,L.tot,L.own,.slice (if cap = qn then ad else ad.map (·.add (qn * z))) (len - qn) (cap - qn)⟩) E ⟨m.nb,[],[],some (1000 + z)⟩ w := ⟨_,[],more_self,trivial,by
         simp only [Objs.re]
         rw [if_pos (by omega),show 1000 + z - 1000 = z by omega]
         exact k1.from hLv hqle⟩
        obtain ⟨b0,hb0,hid0,hcs0,_⟩ := objK_ok hk
        subst hid0
        have hs := objStep (kp := keepD (some b0.id)) (D := L.own) hM hW (hf _ (Nat.le_refl _) (Nat.lt_succ_self _)) hblk (fun y hy=>.inl hy) (fun y hy=>k2 y hy) (fun c hc hkp hcs K hK y hy hyL=>hM.disj c hc b0 hb0 hcs (allC_nil hcs0) (by simpa [keepD] using hkp) K L hK hL y hy hyL) (fun y hy=>⟨b0,hb0,L,hL,hy⟩) (Nat.le_refl _) (fun _ _ _=>rfl) (Go.RowKit.Below.refl 0 w)
        refine ⟨_,_,w,.inl ?_,⟨_,more_self,rfl,_,len - qn,cap - qn,rfl,?_⟩,hs.1,hs.2⟩
        ·have hx : a.eval x = .slice ad len cap := he
         simp only [execOp,hx,Option.map_some,Option.map_none]
         simp only [Sem.run_bind,hrun,Result.andThen_ok,Sem.run_pure]
        ·show k = _
         omega
       ·rename_i hless
        rcases h1 : g.bin .geq .i64 r (.c 0) with ⟨a1,g1⟩
        simp only [h1] at h
        rcases h2 : (g1.must pc a1).bin .leq .i64 r n with ⟨a2,g2⟩
        simp only [h2] at h
        rcases h3 : (g2.must pc a2).bin .leq .i64 n (.c 1048576) with ⟨a3,g3⟩
        simp only [h3] at h
        rcases h4 : (g3.must pc a3).bin .sub .i64 n r with ⟨q,g4⟩
        simp only [h4] at h
        injection h with h; injection h with e1 e; injection e with e2 e3; subst e1; subst e2; subst e3
        have hgood : Good I X E g4 → Good I X E (g3.must pc a3) ∧ Good I X E g3 ∧ Good I X E (g2.must pc a2) ∧ Good I X E g2 ∧ Good I X E (g1.must pc a1) ∧ Good I X E g1 ∧ Good I X E g := fun H=>by
         have H1 := (bin_ok h4 H).1
         have H2 := (must_ok H1).1
         have H3 := (bin_ok h3 H2).1
         have H4 := (must_ok H3).1
         have H5 := (bin_ok h2 H4).1
         have H6 := (must_ok H5).1
         exact ⟨H1,H2,H3,H4,H5,H6,(bin_ok h1 H6).1⟩
        refine ⟨St.objStep fun H=>(hgood H).2.2.2.2.2.2,fun H O ρ a w ho hxl hM hW hp hf=>?_⟩
        obtain ⟨H1,H2,H3,H4,H5,H6,H0⟩ := hgood H
        obtain ⟨L,hL,hv,ad,len,cap,he,hn⟩ := hxl
        obtain ⟨k1,k2⟩ := objK_sl hM hk hL
        have hLv : L.val = .slice ad len cap := by rw [← hv]; exact he
        have hy : a.eval y = .int kk (r.val E) := ho.one (x := y) (by simp [Op.operands]) hr
        have b1 := (must_ok H5).2 hp
        rw [(bin_ok h1 H6).2] at b1
        have b2 := (must_ok H3).2 hp
        rw [(bin_ok h2 H4).2] at b2
        have b3 := (must_ok H1).2 hp
        rw [(bin_ok h3 H2).2] at b3
        have b4 := (bin_ok h4 H).2
        simp only [intSem,truth_ofB,decide_eq_true_eq] at b1 b2 b3
        rw [hn] at b2 b3
        replace b1 : 0 ≤ r.val E := b1
        replace b3 : (len : Int) ≤ 1048576 := b3
        obtain ⟨qn,hqn⟩ : ∃ qn : Nat,r.val E = qn := ⟨(r.val E).toNat,by omega⟩
        rw [hqn] at b2
        have hqle : qn ≤ len := by omega
        have hlc : len ≤ cap := by
         obtain ⟨a',len',cap',hv',hlc,_⟩ := k1
         rw [hLv] at hv'
         injection hv' with e1 e2 e3
         omega
        have o1 : OVal (some qn) (some (a.eval y)) := .inr ⟨qn,kk,rfl,by rw [hy,hqn]⟩
        have hrun := run_cut (P := C.P) o1 (.inl ⟨rfl,rfl⟩ : OVal none none) (.inl ⟨rfl,rfl⟩ : OVal none none) (by simp) hz hu (base := ad) (len := len) (cap := cap) (by simp) (by simpa using hlc) (by simpa using hqle) w
        simp only [Option.getD_some,Option.getD_none] at hrun
        have hblk : Blk O (more ρ m.nb ⟨L.n,L.tot,L.own,.slice (if cap = qn then ad else ad.map (·.add (qn * z))) (len - qn) (cap - qn)⟩) E ⟨m.nb,[],[],some (1000 + z)⟩ w := ⟨_,[],more_self,trivial,by
         simp only [Objs.re]
         rw [if_pos (by omega),show 1000 + z - 1000 = z by omega]
         exact k1.from hLv hqle⟩
        obtain ⟨b0,hb0,hid0,hcs0,_⟩ := objK_ok hk
        subst hid0
        have hs := objStep (kp := keepD (some b0.id)) (D := L.own) hM hW (hf _ (Nat.le_refl _) (Nat.lt_succ_self _)) hblk (fun y hy=>.inl hy) (fun y hy=>k2 y hy) (fun c hc hkp hcs K hK y hy hyL=>hM.disj c hc b0 hb0 hcs (allC_nil hcs0) (by simpa [keepD] using hkp) K L hK hL y hy hyL) (fun y hy=>⟨b0,hb0,L,hL,hy⟩) (Nat.le_refl _) (fun _ _ _=>rfl) (Go.RowKit.Below.refl 0 w)
        refine ⟨_,_,w,.inl ?_,⟨_,more_self,rfl,_,len - qn,cap - qn,rfl,?_⟩,hs.1,hs.2⟩
        ·have hx : a.eval x = .slice ad len cap := he
         simp only [execOp,hx,Option.map_some,Option.map_none]
         simp only [Sem.run_bind,hrun,Result.andThen_ok,Sem.run_pure]
        ·rw [b4]
         simp only [intSem,hn,hqn]
         have : IntKind.i64.wrap ((len : Int) - qn) = (len : Int) - qn := by
          simp [IntKind.wrap,IntKind.bits,IntKind.signed]
          omega
         rw [this]
         omega
      ·cases h
     ·cases h
    ·cases h
   ·cases h
  ·cases h
 ·cases h
theorem EvOk.mono' {ρ ρ' : Map} {a : Act} {xs : List Operand} (h : EvOk ρ E ev a xs) (hle : Lk ρ ρ') : EvOk ρ' E ev a xs := fun x hx v hv=>SV.mono hle v (h x hx v hv)
theorem op_cut {t : TypeId} {x : Operand} {lo hi mx : Option Operand} (h : evO_cut C ev m pc g t x lo hi mx = some (v,m',g')) : OpOk I X E C ev m m' pc g g' ⟨dst,.slice t x lo hi mx,type,pos,after,guard⟩ v := by
 unfold evO_cut at h
 split at h
 ·rename_i c a b hl
  split at h
  ·rename_i l1 m1 g1 hm
   split at h
   ·rename_i r hr
    injection h with h; subst h
    obtain ⟨a1,_,_,_⟩ := mergeL_ok (O := ⟨fun _ _ _ _=>True,fun _ _ _=>trivial⟩) (I := I) (X := X) (E := E) (ρ := fun _=>none) (w := default) hm
    obtain ⟨b1,b2⟩ := op_cutL (I := I) (X := X) (E := E) (dst := dst) (type := type) (pos := pos) (after := after) (guard := guard) (x := x) hr
    refine ⟨a1.trans b1,fun H O ρ a w ho hM hW hp hf=>?_⟩
    obtain ⟨_,hnb,_,a2⟩ := mergeL_ok (O := O) (I := I) (X := X) (E := E) (ρ := ρ) (w := w) hm
    have hn : ρ m.nb = none := hf m.nb (Nat.le_refl _) (by have := b1.nb; omega)
    obtain ⟨i,k1,k2,k3⟩ := a2 (b1.good H) hM hW hn
    have hx := ho.one (x := x) (by simp [Op.operands]) hl
    obtain ⟨ρ',u,w',r1,r2,r3,r4⟩ := b2 H O _ a w (ho.mono' k2.le) (k3 _ (Leaf.mono k2.le _ hx)) k1 (a1.wf hW) hp (hf.step k2 a1)
    exact ⟨ρ',u,w',r1,r2,r3,k2.trans r4 a1 b1 (hf.sub (Nat.le_refl _) b1.nb)⟩
   ·cases h
  ·cases h
 ·rename_i l hne hl
  obtain ⟨b1,b2⟩ := op_cutL (I := I) (X := X) (E := E) (dst := dst) (type := type) (pos := pos) (after := after) (guard := guard) (x := x) h
  exact ⟨b1,fun H O ρ a w ho hM hW hp hf=>b2 H O ρ a w ho (ho.one (x := x) (by simp [Op.operands]) hl) hM hW hp hf⟩
 ·cases h
theorem op_slice {t : TypeId} {x : Operand} {lo hi mx : Option Operand} (h : evOp C ev m pc g ⟨dst,.slice t x lo hi mx,type,pos,after,guard⟩ = some (v,m',g')) : OpOk I X E C ev m m' pc g g' ⟨dst,.slice t x lo hi mx,type,pos,after,guard⟩ v := by
 simp only [evOp,evO_slice'] at h
 split at h
 ·rename_i r hr
  injection h with h; subst h
  exact op_slice0 hr
 ·exact op_cut h
theorem op_load {t : TypeId} {x : Operand} (h : evOp C ev m pc g ⟨dst,.load t x,type,pos,after,guard⟩ = some (v,m',g')) : OpOk I X E C ev m m' pc g g' ⟨dst,.load t x,type,pos,after,guard⟩ v := by
 simp only [evOp,evO_load] at h
 split at h
 ·rename_i l hl
  obtain ⟨⟨z,g1⟩,hz,e⟩ := mapv h
  injection e with e1 e; injection e with e2 e3; subst e1; subst e2; subst e3
  obtain ⟨q1,q2⟩ := loadL_ok (P := C.P) (I := I) (X := X) (E := E) hz
  refine ⟨St.of_good q1,fun H O ρ a w ho hM hW _ hf=>?_⟩
  obtain ⟨u,k1,k2⟩ := q2 H O ρ w _ hM (ho.one (x := x) (by simp [Op.operands]) hl)
  exact OpRan.still hM k1 k2
 ·cases h
theorem op_store {t : TypeId} {x y : Operand} (h : evOp C ev m pc g ⟨dst,.store t x y,type,pos,after,guard⟩ = some (v,m',g')) : OpOk I X E C ev m m' pc g g' ⟨dst,.store t x y,type,pos,after,guard⟩ v := by
 simp only [evOp,evO_store] at h
 split at h
 ·rename_i l z n hl hz hn
  split at h
  ·rename_i hc
   obtain ⟨⟨m1,g1⟩,hst,e⟩ := mapv h
   injection e with e1 e; injection e with e2 e3; subst e1; subst e2; subst e3
   obtain ⟨q1,q2⟩ := storeL_ok (P := C.P) (I := I) (X := X) (E := E) hn hc.1 hc.2 hst
   refine ⟨q1,fun H O ρ a w ho hM hW _ hf=>?_⟩
   have hv := ho.agg (x := y) (by simp [Op.operands]) hz
   have hso : z.solid = true := by
    cases z with
    | one l=>simpa [SA.cells,SA.solid] using hc.2
    | agg ls=>rfl
   obtain ⟨s1,s2⟩ := solid_cells hso hv
   obtain ⟨w',r1,r2,r3⟩ := q2 H O ρ w _ _ hM hW (ho.one (x := x) (by simp [Op.operands]) hl) s1 s2
   refine ⟨ρ,undef,w',.inr ⟨?_,rfl⟩,trivial,r2,r3⟩
   simp only [execOp,Sem.run_bind,r1,Result.andThen_ok,Sem.run_pure]
  ·cases h
 ·cases h
omit [TyOk C.P C.T] in
theorem op_nilCheck {x : Operand} (h : evOp C ev m pc g ⟨dst,.nilCheck x,type,pos,after,guard⟩ = some (v,m',g')) : OpOk I X E C ev m m' pc g g' ⟨dst,.nilCheck x,type,pos,after,guard⟩ v := by
 simp only [evOp,evO_nilCheck] at h
 split at h
 ·rename_i id off hl
  injection h with h; injection h with e1 e; injection e with e2 e3; subst e1; subst e2; subst e3
  refine ⟨St.rfl',fun _ O ρ a w ho hM hW _ hf=>?_⟩
  have hx := ho.one (x := x) (by simp [Op.operands]) hl
  obtain ⟨L,hL,e⟩ := hx
  exact ⟨ρ,_,w,.inl (by simp only [execOp,e]; rfl),⟨L,hL,rfl⟩,hM,Ext.rfl'⟩
 ·rename_i id off st n i hl
  injection h with h; injection h with e1 e; injection e with e2 e3; subst e1; subst e2; subst e3
  refine ⟨St.rfl',fun _ O ρ a w ho hM hW _ hf=>?_⟩
  have hx := ho.one (x := x) (by simp [Op.operands]) hl
  obtain ⟨L,hL,h1,h2,e⟩ := hx
  exact ⟨ρ,_,w,.inl (by simp only [execOp,e]; rfl),⟨L,hL,h1,h2,rfl⟩,hM,Ext.rfl'⟩
 ·rename_i f cs hl
  injection h with h; injection h with e1 e; injection e with e2 e3; subst e1; subst e2; subst e3
  refine ⟨St.rfl',fun _ O ρ a w ho hM hW _ hf=>?_⟩
  have hx := ho.one (x := x) (by simp [Op.operands]) hl
  obtain ⟨us,e,hus⟩ := hx
  exact ⟨ρ,_,w,.inl (by simp only [execOp,e]; rfl),⟨us,rfl,hus⟩,hM,Ext.rfl'⟩
 ·cases h
theorem op_binOp {op : BinOp} {t : TypeId} {x y : Operand} {yt : TypeId} (h : evOp C ev m pc g ⟨dst,.binOp op t x y yt,type,pos,after,guard⟩ = some (v,m',g')) : OpOk I X E C ev m m' pc g g' ⟨dst,.binOp op t x y yt,type,pos,after,guard⟩ v := by
 simp only [evOp,evO_binOp] at h
 obtain ⟨⟨z,g1⟩,hz,e⟩ := mapv h
 injection e with e1 e; injection e with e2 e3; subst e1; subst e2; subst e3
 obtain ⟨q1,q2⟩ := evBin_ok (I := I) (X := X) (E := E) hz
 refine ⟨St.of_good q1,fun H O ρ a w ho hM hW hp hf=>?_⟩
 obtain ⟨u,k1,k2⟩ := q2 H hp ρ a w (fun y hy=>ho y (by simpa [Op.operands] using hy))
 exact OpRan.still hM k1 k2
omit [TyOk C.P C.T] in
theorem op_unOp {op : UnOp} {t : TypeId} {x : Operand} (h : evOp C ev m pc g ⟨dst,.unOp op t x,type,pos,after,guard⟩ = some (v,m',g')) : OpOk I X E C ev m m' pc g g' ⟨dst,.unOp op t x,type,pos,after,guard⟩ v := by
 simp only [evOp,evO_unOp] at h
 split at h
 ·rename_i k r hl
  rcases h1 : g.bin .sub k (.c 0) r with ⟨q,g1⟩
  simp only [h1] at h
  injection h with h; injection h with e1 e; injection e with e2 e3; subst e1; subst e2; subst e3
  refine ⟨St.of_good fun H=>(bin_ok h1 H).1,fun H O ρ a w ho hM hW hp hf=>?_⟩
  have hx := ho.one (x := x) (by simp [Op.operands]) hl
  simp only [Leaf.sat] at hx
  refine OpRan.still (s := Op.unary .neg (a.eval x)) hM (u := .int k (intSem .sub k 0 (r.val E))) ?_ ?_
  ·rw [hx]; rfl
  ·simp only [SV.sat,SA.sat,Leaf.sat]; rw [(bin_ok h1 H).2]; rfl
 ·rename_i k r hl
  rcases h1 : g.bin .xor k (.c (if k.signed then -1 else k.max)) r with ⟨q,g1⟩
  simp only [h1] at h
  injection h with h; injection h with e1 e; injection e with e2 e3; subst e1; subst e2; subst e3
  refine ⟨St.of_good fun H=>(bin_ok h1 H).1,fun H O ρ a w ho hM hW hp hf=>?_⟩
  have hx := ho.one (x := x) (by simp [Op.operands]) hl
  simp only [Leaf.sat] at hx
  refine OpRan.still (s := Op.unary .xor (a.eval x)) hM (u := .int k (intSem .xor k (if k.signed then -1 else k.max) (r.val E))) ?_ ?_
  ·rw [hx]; rfl
  ·simp only [SV.sat,SA.sat,Leaf.sat]; rw [(bin_ok h1 H).2]; rfl
 ·rename_i r hl
  rcases h1 : g.not r with ⟨q,g1⟩
  simp only [h1] at h
  injection h with h; injection h with e1 e; injection e with e2 e3; subst e1; subst e2; subst e3
  refine ⟨St.of_good fun H=>(not_ok h1 H).1,fun H O ρ a w ho hM hW hp hf=>?_⟩
  have hx := ho.one (x := x) (by simp [Op.operands]) hl
  simp only [Leaf.sat] at hx
  refine OpRan.still (s := Op.unary .not (a.eval x)) hM (u := .bool (!truth (r.val E))) ?_ ?_
  ·rw [hx]; rfl
  ·simp only [SV.sat,SA.sat,Leaf.sat]; rw [(not_ok h1 H).2]
 ·cases h
theorem op_convert {src t : TypeId} {x : Operand} (h : evOp C ev m pc g ⟨dst,.convert src t x,type,pos,after,guard⟩ = some (v,m',g')) : OpOk I X E C ev m m' pc g g' ⟨dst,.convert src t x,type,pos,after,guard⟩ v := by
 simp only [evOp,evO_convert] at h
 split at h
 ·rename_i d k k0 r hs hu hl
  replace hu := und_ok (P := C.P) hu
  replace hs := und_ok (P := C.P) hs
  have run : ∀ (n : Int) w,(convert src t (.int k0 n)).run C.P w = .ok (.int k (k.wrap n)) w := fun n w=>by
   unfold convert
   simp only [Sem.run_bind,run_under hs w,run_under hu w,Result.andThen_ok]
   rfl
  split at h
  ·rename_i n
   injection h with h; injection h with e1 e; injection e with e2 e3; subst e1; subst e2; subst e3
   refine ⟨St.rfl',fun _ O ρ a w ho hM hW _ hf=>?_⟩
   have hx := ho.one (x := x) (by simp [Op.operands]) hl
   simp only [Leaf.sat] at hx
   simp only [execOp,hx]
   exact OpRan.still (v := .a (.one (.int k (.c (k.wrap n))))) hM (run _ w) rfl
  ·rename_i i
   rcases h1 : g.push (.wrap k (.e i)) with ⟨q,g1⟩
   simp only [h1] at h
   injection h with h; injection h with e1 e; injection e with e2 e3; subst e1; subst e2; subst e3
   refine ⟨St.of_good fun H=>(push_ok h1 H).1,fun H O ρ a w ho hM hW _ hf=>?_⟩
   have hx := ho.one (x := x) (by simp [Op.operands]) hl
   simp only [Leaf.sat] at hx
   simp only [execOp,hx]
   refine OpRan.still (v := .a (.one (.int k q))) hM (run _ w) ?_
   simp only [SV.sat,SA.sat,Leaf.sat]
   rw [(push_ok h1 H).2]; rfl
 ·cases h
theorem op_makeInterface {t : TypeId} {x : Operand} (h : evOp C ev m pc g ⟨dst,.makeInterface t x,type,pos,after,guard⟩ = some (v,m',g')) : OpOk I X E C ev m m' pc g g' ⟨dst,.makeInterface t x,type,pos,after,guard⟩ v := by
 simp only [evOp,evO_makeInterface] at h
 split at h
 ·rename_i d hu
  replace hu := und_ok (P := C.P) hu
  split at h
  ·cases h
  ·rename_i hni
   split at h
   ·rename_i l hl
    injection h with h; injection h with e1 e; injection e with e2 e3; subst e1; subst e2; subst e3
    refine ⟨St.rfl',fun _ O ρ a w ho hM hW _ hf=>?_⟩
    have hx := ho.one (x := x) (by simp [Op.operands]) hl
    simp only [execOp]
    refine OpRan.still (v := .a (.one (.ifc t l))) (u := .iface t (a.eval x)) hM ?_ ⟨_,rfl,hx⟩
    unfold Instr.makeInterface
    simp only [Sem.run_bind,run_under hu w,Result.andThen_ok]
    cases d <;> first | rfl | (exact absurd rfl (hni _))
   ·cases h
 ·cases h
omit [TyOk C.P C.T] in
theorem op_makeFunc {fn : Fn} {first caps : Array Operand} (h : evOp C ev m pc g ⟨dst,.makeFunc fn first caps,type,pos,after,guard⟩ = some (v,m',g')) : OpOk I X E C ev m m' pc g g' ⟨dst,.makeFunc fn first caps,type,pos,after,guard⟩ v := by
 cases fn with
 | func f =>
  simp only [evOp,evO_makeFunc] at h
  split at h
  ·rename_i hfi
   obtain ⟨ls,hls,e⟩ := mapv h
   injection e with e1 e; injection e with e2 e3; subst e1; subst e2; subst e3
   refine ⟨St.rfl',fun _ O ρ a w ho hM hW _ hf=>?_⟩
   obtain rfl : first = #[] := by simpa using hfi
   have hmap : caps.map a.eval = (caps.toList.map a.eval).toArray := by rw [← Array.toList_map]
   simp only [execOp,Array.map_empty,hmap]
   refine OpRan.still (v := .a (.one (.fn f (capsTo ls)))) (u := .func (.func f) #[] (caps.toList.map a.eval).toArray) hM ?_ ⟨caps.toList.map a.eval,rfl,caps_ok (fun y hy=>hy) (fun y hy=>ho y (by simpa [Op.operands] using hy)) hls⟩
   rfl
  ·cases h
 | _=>simp [evOp] at h
theorem op_fieldAddr {t : TypeId} {x : Operand} {f : Nat} (h : evOp C ev m pc g ⟨dst,.fieldAddr t x f,type,pos,after,guard⟩ = some (v,m',g')) : OpOk I X E C ev m m' pc g g' ⟨dst,.fieldAddr t x f,type,pos,after,guard⟩ v := by
 simp only [evOp,evO_fieldAddr] at h
 split at h
 ·rename_i l d u hl hfd
  split at h
  ·cases h
  ·rename_i sz hne hsz
   obtain ⟨s1,rfl⟩ : ∃ s1,sz = s1 + 1 := by
    cases sz with
    | zero=>exact absurd rfl hne
    | succ n=>exact ⟨n,rfl⟩
   split at h
   ·rename_i id off
    injection h with h; injection h with e1 e; injection e with e2 e3; subst e1; subst e2; subst e3
    refine ⟨St.rfl',fun _ O ρ a w ho hM hW _ hf=>?_⟩
    obtain ⟨L,hL,e⟩ := ho.one (x := x) (by simp [Op.operands]) hl
    simp only [execOp,e]
    exact OpRan.still (v := .a (.one (.ptr id (off + d)))) hM (run_fieldAt hfd hsz w) ⟨L,hL,rfl⟩
   ·rename_i id off st n i
    injection h with h; injection h with e1 e; injection e with e2 e3; subst e1; subst e2; subst e3
    refine ⟨St.rfl',fun _ O ρ a w ho hM hW _ hf=>?_⟩
    obtain ⟨L,hL,h1,h2,e⟩ := ho.one (x := x) (by simp [Op.operands]) hl
    simp only [execOp,e]
    refine OpRan.still (v := .a (.one (.pdx id (off + d) st n i))) hM (run_fieldAt hfd hsz w) ⟨L,hL,h1,h2,?_⟩
    congr 3
    omega
   ·cases h
  ·cases h
 ·cases h
theorem op_field {t : TypeId} {x : Operand} {f : Nat} (h : evOp C ev m pc g ⟨dst,.field t x f,type,pos,after,guard⟩ = some (v,m',g')) : OpOk I X E C ev m m' pc g g' ⟨dst,.field t x f,type,pos,after,guard⟩ v := by
 simp only [evOp,evO_field] at h
 split at h
 ·rename_i cs d u hl hfd
  obtain ⟨z,hz,e⟩ := mapv h
  injection e with e1 e; injection e with e2 e3; subst e1; subst e2; subst e3
  refine ⟨St.rfl',fun _ O ρ a w ho hM hW _ hf=>?_⟩
  obtain ⟨vs,e,_,hs⟩ := ho.agg (x := x) (by simp [Op.operands]) hl
  obtain ⟨u,k1,k2⟩ := partS_ok (P := C.P) hz hs w
  simp only [execOp,e]
  exact OpRan.still (v := .a z) hM (run_field hfd k1) k2
 ·cases h
theorem op_indexAddr {t : TypeId} {x i : Operand} (h : evOp C ev m pc g ⟨dst,.indexAddr t x i,type,pos,after,guard⟩ = some (v,m',g')) : OpOk I X E C ev m m' pc g g' ⟨dst,.indexAddr t x i,type,pos,after,guard⟩ v := by
 simp only [evOp,evO_indexAddr] at h
 split at h
 ·rename_i n e id off li hu hl hi
  replace hu := und_ok (P := C.P) hu
  split at h
  ·rename_i z hz
   obtain ⟨⟨y,g1⟩,hy,e⟩ := mapv h
   injection e with e1 e; injection e with e2 e3; subst e1; subst e2; subst e3
   obtain ⟨q1,q2⟩ := elemP_ok (I := I) (X := X) (E := E) hy
   refine ⟨St.of_good q1,fun H O ρ a w ho hM hW hp hf=>?_⟩
   obtain ⟨L,hL,e⟩ := ho.one (x := x) (by simp [Op.operands]) hl
   obtain ⟨k,j,ej,j0,j1,hv⟩ := q2 H hp ρ _ L (ho.one (x := i) (by simp [Op.operands]) hi) hL
   simp only [execOp,e,ej]
   exact OpRan.still hM (run_indexA hu hz j0 j1 w) hv
  ·cases h
 ·rename_i e id off n cap li hu hl hi
  replace hu := und_ok (P := C.P) hu
  split at h
  ·rename_i z hz
   obtain ⟨⟨y,g1⟩,hy,e⟩ := mapv h
   injection e with e1 e; injection e with e2 e3; subst e1; subst e2; subst e3
   obtain ⟨q1,q2⟩ := elemP_ok (I := I) (X := X) (E := E) hy
   refine ⟨St.of_good q1,fun H O ρ a w ho hM hW hp hf=>?_⟩
   obtain ⟨L,hL,e⟩ := ho.one (x := x) (by simp [Op.operands]) hl
   obtain ⟨k,j,ej,j0,j1,hv⟩ := q2 H hp ρ _ L (ho.one (x := i) (by simp [Op.operands]) hi) hL
   simp only [execOp,e,ej]
   exact OpRan.still hM (run_indexS hu hz j0 j1 w) hv
  ·cases h
 ·rename_i e id off n sz li hu hl hi
  replace hu := und_ok (P := C.P) hu
  split at h
  ·rename_i z hz
   obtain ⟨⟨y,g1⟩,hy,e⟩ := mapv h
   injection e with e1 e; injection e with e2 e3; subst e1; subst e2; subst e3
   obtain ⟨q1,q2⟩ := elemP_ok (I := I) (X := X) (E := E) hy
   refine ⟨St.of_good q1,fun H O ρ a w ho hM hW hp hf=>?_⟩
   obtain ⟨L,cap,hL,_,_,e⟩ := ho.one (x := x) (by simp [Op.operands]) hl
   obtain ⟨k,j,ej,j0,j1,hv⟩ := q2 H hp ρ _ L (ho.one (x := i) (by simp [Op.operands]) hi) hL
   simp only [execOp,e,ej]
   exact OpRan.still hM (run_indexS hu hz j0 j1 w) hv
  ·cases h
 ·rename_i e id off n li hu hl hi
  replace hu := und_ok (P := C.P) hu
  split at h
  ·rename_i z hz
   obtain ⟨⟨y,g1⟩,hy,e⟩ := mapv h
   injection e with e1 e; injection e with e2 e3; subst e1; subst e2; subst e3
   obtain ⟨q1,q2⟩ := elemP_ok (I := I) (X := X) (E := E) hy
   refine ⟨St.of_good q1,fun H O ρ a w ho hM hW hp hf=>?_⟩
   obtain ⟨L,cap,hL,_,e⟩ := ho.one (x := x) (by simp [Op.operands]) hl
   obtain ⟨k,j,ej,j0,j1,hv⟩ := q2 H hp ρ _ L (ho.one (x := i) (by simp [Op.operands]) hi) hL
   simp only [execOp,e,ej]
   exact OpRan.still hM (run_indexS hu hz j0 j1 w) hv
  ·cases h
 ·cases h
theorem bytes_get (s : ByteArray) (i : Nat) : s[i]? = s.data.toList[i]? := by
 by_cases h : i < s.size
 ·rw [getElem?_pos s i h]
  have h' : i < s.data.toList.length := h
  rw [List.getElem?_eq_getElem h']
  rfl
 ·rw [getElem?_neg s i h]
  have h' : ¬ i < s.data.toList.length := h
  rw [List.getElem?_eq_none (by omega)]
theorem strAt_ok {s : ByteArray} {pc : Ref} {i y : Leaf} {g g' : Gl} (h : strAt s pc i g = some (y,g')) : (Good I X E g' → Good I X E g) ∧
  (Good I X E g' → truth (pc.val E) = true → ∀ (ρ : Map) u,i.sat ρ E u → ∃ k j b,u = .int k j ∧ (if 0 ≤ j then s[j.toNat]? else none) = some b ∧ y.sat ρ E (.int .u8 (b : UInt8).toNat)) := by
 unfold strAt at h
 split at h
 ·rename_i k r
  split at h
  ·rename_i j
   split at h
   ·rename_i hj
    split at h
    ·rename_i b hb
     injection h with h; injection h with e1 e2; subst e1; subst e2
     refine ⟨fun H=>H,fun _ _ ρ u hu=>⟨k,j,b,hu,?_,rfl⟩⟩
     rw [if_pos hj,bytes_get,hb]
    ·cases h
   ·cases h
  ·rename_i q
   rcases h1 : g.bin .geq k (.e q) (.c 0) with ⟨b1,g1⟩
   rcases h2 : g1.bin .lss k (.e q) (.c s.data.toList.length) with ⟨b2,g2⟩
   simp only [h1,h2] at h
   rcases h3 : ((g2.must pc b1).must pc b2).push (.sel (s.data.toList.map fun b=>.c b.toNat) (.e q)) with ⟨b3,g3⟩
   simp only [h3] at h
   injection h with h; injection h with e1 e2; subst e1; subst e2
   have hpush : Good I X E g3 → Good I X E ((g2.must pc b1).must pc b2) := fun H=>(push_ok h3 H).1
   refine ⟨fun H=>(bin_ok h1 (bin_ok h2 (must_ok (must_ok (hpush H)).1).1).1).1,fun H hp ρ u hu=>?_⟩
   obtain ⟨H0,k3⟩ := push_ok h3 H
   obtain ⟨H1,m1⟩ := must_ok H0
   obtain ⟨H2,m2⟩ := must_ok H1
   obtain ⟨H3,c2⟩ := bin_ok h2 H2
   have c1 := (bin_ok h1 H3).2
   have t1 := m2 hp
   have t2 := m1 hp
   rw [c1] at t1
   rw [c2] at t2
   simp only [intSem,truth_ofB,ge_iff_le,decide_eq_true_eq] at t1 t2
   have t1' : 0 ≤ (Ref.e q).val E := t1
   have t2' : (Ref.e q).val E < s.data.toList.length := t2
   have hlt : ((Ref.e q).val E).toNat < s.data.toList.length := by omega
   refine ⟨k,_,s.data.toList[((Ref.e q).val E).toNat],hu,?_,?_⟩
   ·rw [if_pos t1',bytes_get,List.getElem?_eq_getElem hlt]
   ·simp only [Leaf.sat,k3,Df.den]
    rw [List.getD_eq_getElem?_getD,List.getElem?_map,List.getElem?_eq_getElem hlt]
    rfl
 ·cases h
theorem op_index {t : TypeId} {x i : Operand} (h : evOp C ev m pc g ⟨dst,.index t x i,type,pos,after,guard⟩ = some (v,m',g')) : OpOk I X E C ev m m' pc g g' ⟨dst,.index t x i,type,pos,after,guard⟩ v := by
 simp only [evOp,evO_index] at h
 split at h
 ·rename_i str hstr
  obtain rfl : x = .const (.string str) := by
   unfold strLit at hstr
   split at hstr
   ·injection hstr with e; rw [e]
   ·cases hstr
  split at h
  ·rename_i l hu hi
   replace hu := und_ok (P := C.P) hu
   obtain ⟨⟨y,g1⟩,hy,e⟩ := mapv h
   injection e with e1 e; injection e with e2 e3; subst e1; subst e2; subst e3
   obtain ⟨q1,q2⟩ := strAt_ok (I := I) (X := X) (E := E) hy
   refine ⟨St.of_good q1,fun H O ρ a w ho hM hW hp hf=>?_⟩
   obtain ⟨k,j,b,e,k1,k2⟩ := q2 H hp ρ _ (ho.one (x := i) (by simp [Op.operands]) hi)
   simp only [execOp,e]
   refine OpRan.still (v := .a (.one y)) (u := .int .u8 b.toNat) hM ?_ k2
   unfold Instr.index
   simp only [asIntOf,Sem.run_bind,Sem.run_pure,Result.andThen_ok,run_under hu w,Act.eval]
   simp only [k1,Sem.run_pure]
  ·cases h
 split at h
 ·rename_i n e cs k r hu hl hi
  replace hu := und_ok (P := C.P) hu
  split at h
  ·rename_i z hz
   split at h
   ·rename_i j
    split at h
    ·rename_i hj
     obtain ⟨y,hy,e⟩ := mapv h
     injection e with e1 e; injection e with e2 e3; subst e1; subst e2; subst e3
     refine ⟨St.rfl',fun H O ρ a w ho hM hW hp hf=>?_⟩
     obtain ⟨vs,e,_,hs⟩ := ho.agg (x := x) (by simp [Op.operands]) hl
     have hx := ho.one (x := i) (by simp [Op.operands]) hi
     simp only [Leaf.sat,Ref.val] at hx
     obtain ⟨u,k1,k2⟩ := partS_ok (P := C.P) hy hs w
     simp only [execOp,e,hx]
     exact OpRan.still (v := .a y) hM (run_indexV hu hz hj.1 hj.2 k1) k2
    ·cases h
   ·rename_i q
    rcases h1 : g.bin .geq k (.e q) (.c 0) with ⟨b1,g1⟩
    rcases h2 : g1.bin .lss k (.e q) (.c n) with ⟨b2,g2⟩
    simp only [h1,h2] at h
    obtain ⟨⟨y,g3⟩,hy,e⟩ := mapv h
    injection e with e1 e; injection e with e2 e3; subst e1; subst e2; subst e3
    obtain ⟨q1,q2⟩ := partD_ok (I := I) (X := X) (E := E) hy
    refine ⟨St.of_good fun H=>(bin_ok h1 (bin_ok h2 (must_ok (must_ok (q1 H)).1).1).1).1,fun H O ρ a w ho hM hW hp hf=>?_⟩
    obtain ⟨H1,m1⟩ := must_ok (q1 H)
    obtain ⟨H2,m2⟩ := must_ok H1
    obtain ⟨H3,b2⟩ := bin_ok h2 H2
    have b1 := (bin_ok h1 H3).2
    have t1 := m2 hp
    have t2 := m1 hp
    rw [b1] at t1
    rw [b2] at t2
    simp only [intSem,truth_ofB,ge_iff_le,decide_eq_true_eq] at t1 t2
    have t1' : 0 ≤ (Ref.e q).val E := t1
    have t2' : (Ref.e q).val E < n := t2
    obtain ⟨vs,e,_,hs⟩ := ho.agg (x := x) (by simp [Op.operands]) hl
    have hx := ho.one (x := i) (by simp [Op.operands]) hi
    simp only [Leaf.sat] at hx
    have hd := q2 H ρ vs hs (by omega)
    rw [Nat.zero_add,Nat.mul_comm z] at hd
    obtain ⟨u,k1,k2⟩ := part_alt (P := C.P) hd w
    simp only [execOp,e,hx]
    exact OpRan.still (v := .a y) hM (run_indexV hu hz t1' t2' k1) k2
  ·cases h
 ·cases h
omit [TyOk C.P C.T] in
theorem op_extract {x : Operand} {i : Nat} (h : evOp C ev m pc g ⟨dst,.extract x i,type,pos,after,guard⟩ = some (v,m',g')) : OpOk I X E C ev m m' pc g g' ⟨dst,.extract x i,type,pos,after,guard⟩ v := by
 simp only [evOp,evO_extract] at h
 split at h
 ·rename_i xs hl
  obtain ⟨z,hz,e⟩ := mapv h
  injection e with e1 e; injection e with e2 e3; subst e1; subst e2; subst e3
  refine ⟨St.rfl',fun _ O ρ a w ho hM hW _ hf=>?_⟩
  obtain ⟨vs,e,hs⟩ := ho x (by simp [Op.operands]) _ hl
  obtain ⟨u,k1,k2⟩ := satA_get hs hz
  simp only [execOp,e]
  refine OpRan.still (v := .a z) (u := u) hM ?_ k2
  simp [Instr.extract,k1]
 ·cases h
theorem assertL_ok {P : Program} {z : Leaf} {zv : Value} {t : TypeId} {d : TypeDesc} {i : TypeInfo} (hd : P.underlying t = some d) (hn : ∀ ms,d ≠ .interface ms) (hi : P.info? t = some i) (hz : i.zero = some zv) (hs : ∀ (ρ : Map) (E : Nat → Int),z.sat ρ E zv) :
  ∀ {l : Leaf} {g g' : Gl} {y : Leaf} {r : Ref},assertL z t l g = some (y,r,g') → (Good I X E g' → Good I X E g) ∧ (Good I X E g' → ∀ (ρ : Map) v xt w,l.sat ρ E v → ∃ u,(Instr.typeAssert v xt t true).run P w = .ok (.tuple #[u,.bool (truth (r.val E))]) w ∧ y.sat ρ E u) := by
 have hzero : ∀ w,(zeroValue t).run P w = .ok zv w := fun w=>by simp [zeroValue,typeInfo,hi,hz]
 intro l
 induction l with
 | nilI =>
  intro g g' y r h
  simp only [assertL] at h
  injection h with h; injection h with e1 e; injection e with e2 e3; subst e1; subst e2; subst e3
  refine ⟨fun H=>H,fun _ ρ v xt w hv=>⟨zv,?_,hs ρ E⟩⟩
  simp only [Leaf.sat] at hv
  subst hv
  unfold Instr.typeAssert
  simp only [Sem.run_bind,run_under hd w,Result.andThen_ok]
  cases d <;> first | (exact absurd rfl (hn _)) | (simp [hzero,Ref.val,truth])
 | ifc u x _ =>
  intro g g' y r h
  simp only [assertL] at h
  split at h
  ·rename_i hu
   injection h with h; injection h with e1 e; injection e with e2 e3; subst e1; subst e2; subst e3
   refine ⟨fun H=>H,fun _ ρ v xt w hv=>?_⟩
   obtain ⟨q,rfl,hq⟩ := hv
   refine ⟨q,?_,hq⟩
   unfold Instr.typeAssert
   simp only [Sem.run_bind,run_under hd w,Result.andThen_ok]
   cases d <;> first | (exact absurd rfl (hn _)) | (simp [hu,Ref.val,truth])
  ·rename_i hu
   injection h with h; injection h with e1 e; injection e with e2 e3; subst e1; subst e2; subst e3
   refine ⟨fun H=>H,fun _ ρ v xt w hv=>?_⟩
   obtain ⟨q,rfl,hq⟩ := hv
   refine ⟨zv,?_,hs ρ E⟩
   unfold Instr.typeAssert
   simp only [Sem.run_bind,run_under hd w,Result.andThen_ok]
   cases d <;> first | (exact absurd rfl (hn _)) | (simp [hzero,hu,Ref.val,truth])
 | mix c a b iha ihb =>
  intro g g' y r h
  simp only [assertL] at h
  split at h
  ·rename_i x1 r1 g1 h1
   split at h
   ·rename_i y1 s1 g2 h2
    rcases h3 : joinL c x1 y1 g2 with ⟨l3,g3⟩
    simp only [h3] at h
    rcases h4 : g3.ite c r1 s1 with ⟨q4,g4⟩
    simp only [h4] at h
    injection h with h; injection h with e1 e; injection e with e2 e3; subst e1; subst e2; subst e3
    obtain ⟨a1,a2⟩ := iha h1
    obtain ⟨b1,b2⟩ := ihb h2
    refine ⟨fun H=>a1 (b1 (joinL_ok h3 (ite_ok h4 H).1).1),fun H ρ v xt w hv=>?_⟩
    obtain ⟨H3,k4⟩ := ite_ok h4 H
    obtain ⟨H2,k3⟩ := joinL_ok h3 H3
    cases hc : truth (c.val E) with
    | true =>
     obtain ⟨u,q1,q2⟩ := a2 (b1 H2) ρ v xt w (hv.1 hc)
     refine ⟨u,?_,k3 ρ u (fun _=>q2) (fun h=>by rw [hc] at h; cases h)⟩
     rw [q1,k4,hc]; rfl
    | false =>
     obtain ⟨u,q1,q2⟩ := b2 H2 ρ v xt w (hv.2 hc)
     refine ⟨u,?_,k3 ρ u (fun h=>by rw [hc] at h; cases h) (fun _=>q2)⟩
     rw [q1,k4,hc]; rfl
   ·cases h
  ·cases h
 | _=>intro g g' y r h; simp [assertL] at h
theorem op_typeAssert {x : Operand} {xt t : TypeId} {ok : Bool} (h : evOp C ev m pc g ⟨dst,.typeAssert x xt t ok,type,pos,after,guard⟩ = some (v,m',g')) : OpOk I X E C ev m m' pc g g' ⟨dst,.typeAssert x xt t ok,type,pos,after,guard⟩ v := by
 simp only [evOp,evO_typeAssert] at h
 split at h
 ·rename_i d hu
  replace hu := und_ok (P := C.P) hu
  split at h
  ·cases h
  ·rename_i hni
   split at h
   ·rename_i l zv hl hz
    split at h
    ·rename_i z hsz
     split at h
     ·rename_i y r g1 ha
      injection h with h; injection h with e1 e; injection e with e2 e3; subst e1; subst e2; subst e3
      obtain ⟨i,hi,hiz⟩ : ∃ i,C.P.info? t = some i ∧ i.zero = some zv := by
       cases hi : C.T t with
       | none=>rw [hi] at hz; cases hz
       | some i=>rw [hi] at hz; exact ⟨i.info,(TyOk.ok t i hi).2,hz⟩
      have hzs : ∀ (ρ : Map) (E : Nat → Int),z.sat ρ E zv := fun ρ E=>by
       have := svOf_ok (ρ := ρ) (E := E) zv
       rw [hsz] at this
       exact this
      obtain ⟨q1,q2⟩ := assertL_ok (I := I) (X := X) (E := E) hu (fun ms e=>hni ms e) hi hiz hzs ha
      refine ⟨St.of_good q1,fun H O ρ a w ho hM hW _ hf=>?_⟩
      obtain ⟨u,k1,k2⟩ := q2 H ρ _ xt w (ho.one (x := x) (by simp [Op.operands]) hl)
      simp only [execOp]
      exact OpRan.still hM k1 ⟨[u,.bool (truth (r.val E))],rfl,k2,rfl,trivial⟩
     ·cases h
    ·cases h
   ·cases h
 ·cases h
theorem evOp_ok {o : Oper} (h : evOp C ev m pc g o = some (v,m',g')) : OpOk I X E C ev m m' pc g g' o v := by
 obtain ⟨dst,op,type,pos,after,guard⟩ := o
 cases op with
 | move x=>exact op_move h
 | assign x=>exact op_assign h
 | pick c x y=>exact op_pick h
 | alloc t=>exact op_alloc h
 | box t x=>exact op_box h
 | build t ps=>exact op_build h
 | buildSlice t len ps=>exact op_buildSlice h
 | makeSlice t l c=>exact op_makeSlice h
 | slice t x lo hi mx=>exact op_slice h
 | load t x=>exact op_load h
 | store t x y=>exact op_store h
 | nilCheck x=>exact op_nilCheck h
 | binOp op t x y yt=>exact op_binOp h
 | unOp op t x=>exact op_unOp h
 | convert s t x=>exact op_convert h
 | makeInterface t x=>exact op_makeInterface h
 | makeFunc fn first caps=>exact op_makeFunc h
 | fieldAddr t x f=>exact op_fieldAddr h
 | field t x f=>exact op_field h
 | indexAddr t x i=>exact op_indexAddr h
 | index t x i=>exact op_index h
 | extract x i=>exact op_extract h
 | typeAssert x xt t ok=>exact op_typeAssert h
 | _=>simp [evOp] at h
end
def satVs (ρ : Map) (E : Nat → Int) : List SV → List Value → Prop
 | [],[]=>True
 | x :: xs,v :: vs=>x.sat ρ E v ∧ satVs ρ E xs vs
 | _,_=>False
def CallOk (C : Cx) (O : Objs) (I : Nat → Int) (X : Nat → List Int → Int) (E : Nat → Int) (call : CallF) : Prop :=
 ∀ f args m pc g v m' g',call f args m pc g = some (v,m',g') → (∃ fn c,C.P.funcs[f]? = some fn ∧ fn.body = some c ∧ fn.name ≠ "runtime.NumGoroutine") ∧ (WF m → St I X E g g' m m') ∧
  (Good I X E g' → ∀ ρ vs w,satVs ρ E args vs → GlobOk C ρ → M O ρ E m.bs w → WF m → truth (pc.val E) = true → Fresh ρ m.nb m'.nb →
   Calls C.P f vs.toArray w fun e w'=>∃ ρ' u,e = .returned u ∧ v.sat ρ' E u ∧ M O ρ' E m'.bs w' ∧ Ext ρ ρ' m m' w w')
section
variable {P : Program} {T : Tys} [TyOk P T] {O : Objs} {I : Nat → Int} {X : Nat → List Int → Int} {ρ : Map} {E : Nat → Int} {w w' : World} {m m' : Mem} {g g' : Gl} {C : Cx} [TyOk C.P C.T] {ev : Ev} {pc : Ref} {v : SV}
theorem satVs_app : ∀ {xs ys : List SV} {vs us : List Value},satVs ρ E xs vs → satVs ρ E ys us → satVs ρ E (xs ++ ys) (vs ++ us)
 | [],_,[],_,_,h=>h
 | _ :: _,_,_ :: _,_,h,h'=>⟨h.1,satVs_app h.2 h'⟩
 | [],_,_ :: _,_,h,_=>h.elim
 | _ :: _,_,[],_,h,_=>h.elim
theorem satVs_len : ∀ {xs : List SV} {vs : List Value},satVs ρ E xs vs → xs.length = vs.length
 | [],[],_=>rfl
 | _ :: _,_ :: _,h=>by simp only [List.length_cons]; rw [satVs_len h.2]
 | [],_ :: _,h=>h.elim
 | _ :: _,[],h=>h.elim
theorem satVs_get : ∀ {xs : List SV} {vs : List Value},satVs ρ E xs vs → ∀ {i : Nat} {x : SV},xs[i]? = some x → ∃ v,vs[i]? = some v ∧ x.sat ρ E v
 | x :: xs,v :: vs,h,0,y,hy=>⟨v,rfl,by
   obtain rfl : x = y := by simpa using hy
   exact h.1⟩
 | x :: xs,v :: vs,h,i + 1,y,hy=>by simpa using satVs_get h.2 (by simpa using hy)
 | [],_,_,i,y,hy=>by simp at hy
 | _ :: _,[],h,_,_,_=>h.elim
theorem evList_ok {a : Act} {ops : List Operand} : ∀ {xs : List Operand} {ls : List SV},(∀ x ∈ xs,x ∈ ops) → EvOk ρ E ev a ops → evList (xs.map ev) = some ls → satVs ρ E ls (xs.map a.eval)
 | [],ls,_,_,h=>by
  obtain rfl : [] = ls := by simpa [evList] using h
  trivial
 | x :: xs,ls,hx,ho,h=>by
  simp only [List.map_cons,evList] at h
  split at h
  ·rename_i l hl
   split at h
   ·rename_i ks hk
    injection h with h; subst h
    exact ⟨ho x (hx x (by simp)) _ hl,evList_ok (fun y hy=>hx y (by simp [hy])) ho hk⟩
   ·cases h
  ·cases h
theorem capsOf_ok : ∀ {l : Leaf} {us : List Value},l.satc ρ E us → satVs ρ E (capsOf l) us
 | .cons a b,_ :: _,h=>⟨h.1,capsOf_ok h.2⟩
 | .cons _ _,[],h=>h.elim
 | .int _ _,_,h=>by subst h; trivial
 | .bool _,_,h=>by subst h; trivial
 | .ptr _ _,_,h=>by subst h; trivial
 | .pdx _ _ _ _ _,_,h=>by subst h; trivial
 | .slc _ _ _ _,_,h=>by subst h; trivial
 | .slu _ _ _ _,_,h=>by subst h; trivial
 | .sla _ _ _,_,h=>by subst h; trivial
 | .opq _,_,h=>by subst h; trivial
 | .opl _ _,_,h=>by subst h; trivial
 | .nilP,_,h=>by subst h; trivial
 | .nilI,_,h=>by subst h; trivial
 | .nilS,_,h=>by subst h; trivial
 | .nilF,_,h=>by subst h; trivial
 | .ifc _ _,_,h=>by subst h; trivial
 | .fn _ _,_,h=>by subst h; trivial
 | .mix _ _ _,_,h=>by subst h; trivial
 | .junk,_,h=>by subst h; trivial
theorem ones_ok : ∀ {xs : List SV} {ls : List Leaf} {vs : List Value},ones xs = some ls → satVs ρ E xs vs → sats ρ E ls vs ∧ ls.length = vs.length
 | [],ls,[],h,_=>by
  obtain rfl : [] = ls := by simpa [ones] using h
  exact ⟨trivial,rfl⟩
 | .a (.one l) :: xs,ls,v :: vs,h,hs=>by
  simp only [ones] at h
  obtain ⟨ks,hk,e⟩ := mapv h
  subst e
  obtain ⟨k1,k2⟩ := ones_ok hk hs.2
  exact ⟨⟨hs.1,k1⟩,by simp [k2]⟩
 | .a (.agg _) :: _,_,_,h,_=>by simp [ones] at h
 | .tup _ :: _,_,_,h,_=>by simp [ones] at h
 | .whn _ _ :: _,_,_,h,_=>by simp [ones] at h
 | [],_,_ :: _,_,h=>h.elim
 | _ :: _,_,[],_,h=>h.elim
theorem evMin_ok {mx : Bool} : ∀ {ls : List Leaf} {l z : Leaf} {g g' : Gl},evMin mx l ls g = some (z,g') → (Good I X E g' → Good I X E g) ∧ (Good I X E g' → ∀ P ρ v vs w,l.sat ρ E v → sats ρ E ls vs → ls.length = vs.length →
  ∃ u,(vs.foldlM (if mx then Builtin.max2 else Builtin.min2) v).run P w = .ok u w ∧ z.sat ρ E u)
 | [],l,z,g,g',h=>by
  simp only [evMin] at h
  injection h with h; injection h with e1 e2; subst e1; subst e2
  refine ⟨fun H=>H,fun _ P ρ v vs w hv hs hl=>⟨v,?_,hv⟩⟩
  cases vs with
  | nil=>rfl
  | cons _ _=>simp at hl
 | x :: ls,l,z,g,g',h=>by
  simp only [evMin] at h
  split at h
  ·rename_i k p k' q
   split at h
   ·rename_i hk; subst hk
    have two : ∀ {P : Program} {w : World} (p q : Int),((if mx then Builtin.max2 else Builtin.min2) (.int k p) (.int k q)).run P w = .ok (.int k (if mx then max p q else min p q)) w := fun {P w} p q=>by
     cases mx
     ·simp only [Bool.false_eq_true,if_false]
      show Result.ok (Value.int k (if q < p then q else p)) w = _
      congr 2; split <;> omega
     ·simp only [if_true]
      show Result.ok (Value.int k (if q > p then q else p)) w = _
      congr 2; split <;> omega
    split at h
    ·rename_i p1 q1
     obtain ⟨i1,i2⟩ := evMin_ok h
     refine ⟨i1,fun H P ρ v vs w hv hs hl=>?_⟩
     cases vs with
     | nil=>simp at hl
     | cons v1 vs =>
      have e1 : v = .int k p1 := hv
      have e2 : v1 = .int k q1 := hs.1
      subst e1; subst e2
      obtain ⟨u,k1,k2⟩ := i2 H P ρ (.int k (if mx then max p1 q1 else min p1 q1)) vs w rfl hs.2 (by simpa using hl)
      exact ⟨u,by rw [List.foldlM_cons,Sem.run_bind,two,Result.andThen_ok,k1],k2⟩
    ·rename_i hne
     rcases h1 : g.push (if mx = true then .mx p q else .mn p q) with ⟨r,g1⟩
     simp only [h1] at h
     obtain ⟨i1,i2⟩ := evMin_ok h
     refine ⟨fun H=>(push_ok h1 (i1 H)).1,fun H P ρ v vs w hv hs hl=>?_⟩
     cases vs with
     | nil=>simp at hl
     | cons v1 vs =>
      have e1 : v = .int k (p.val E) := hv
      have e2 : v1 = .int k (q.val E) := hs.1
      subst e1; subst e2
      have hr := (push_ok h1 (i1 H)).2
      obtain ⟨u,k1,k2⟩ := i2 H P ρ (.int k (if mx then max (p.val E) (q.val E) else min (p.val E) (q.val E))) vs w (by
       simp only [Leaf.sat]; rw [hr]; cases mx <;> rfl) hs.2 (by simpa using hl)
      exact ⟨u,by rw [List.foldlM_cons,Sem.run_bind,two,Result.andThen_ok,k1],k2⟩
   ·cases h
  ·cases h
theorem lenL_ok {t : TypeId} {x : SA} {n : Nat} (h : lenL T t x = some n) {v : Value} (hv : x.sat ρ E v) {ts : Array TypeId} (ht : ts[0]? = some t) (ty : TypeId) (w : World) :
  (Builtin.len_ ts ty #[v]).run P w = .ok (.int .i64 n) w := by
 unfold lenL at h
 split at h
 ·rename_i k e hu
  replace hu := und_ok (P := P) hu
  injection h with h; subst h
  simp only [Builtin.len_,ht]
  simp only [List.getElem?_toArray,List.getElem?_cons_zero,Sem.run_bind,run_under hu w,Result.andThen_ok]
  rfl
 ·rename_i u hu
  replace hu := und_ok (P := P) hu
  split at h
  ·rename_i k e hu2
   replace hu2 := und_ok (P := P) hu2
   injection h with h; subst h
   simp only [Builtin.len_,ht]
   simp only [List.getElem?_toArray,List.getElem?_cons_zero,Sem.run_bind,run_under hu w,run_under hu2 w,Result.andThen_ok]
   rfl
  ·cases h
 ·rename_i e hu
  replace hu := und_ok (P := P) hu
  split at h
  ·injection h with h; subst h
   obtain ⟨L,hL,rfl⟩ := hv
   simp only [Builtin.len_,ht]
   simp only [List.getElem?_toArray,List.getElem?_cons_zero,Sem.run_bind,run_under hu w,Result.andThen_ok]
   rfl
  ·injection h with h; subst h
   obtain ⟨L,cap,hL,_,_,rfl⟩ := hv
   simp only [Builtin.len_,ht]
   simp only [List.getElem?_toArray,List.getElem?_cons_zero,Sem.run_bind,run_under hu w,Result.andThen_ok]
   rfl
  ·injection h with h; subst h
   obtain ⟨L,cap,hL,_,rfl⟩ := hv
   simp only [Builtin.len_,ht]
   simp only [List.getElem?_toArray,List.getElem?_cons_zero,Sem.run_bind,run_under hu w,Result.andThen_ok]
   rfl
  ·injection h with h; subst h
   simp only [SA.sat,Leaf.sat] at hv
   subst hv
   simp only [Builtin.len_,ht]
   simp only [List.getElem?_toArray,List.getElem?_cons_zero,Sem.run_bind,run_under hu w,Result.andThen_ok]
   rfl
  ·cases h
 ·cases h
theorem lenO_ok {t : TypeId} {x : SA} {n : Ref} (h : lenO T t x = some n) {v : Value} (hv : x.sat ρ E v) {ts : Array TypeId} (ht : ts[0]? = some t) (ty : TypeId) (w : World) :
  (Builtin.len_ ts ty #[v]).run P w = .ok (.int .i64 (n.val E)) w := by
 unfold lenO at h
 split at h
 ·rename_i k hk
  injection h with h; subst h
  exact lenL_ok hk hv ht ty w
 ·split at h
  ·rename_i e hu
   replace hu := und_ok (P := P) hu
   split at h
   ·injection h with h; subst h
    obtain ⟨L,hL,_,a,len,cap,rfl,hn⟩ := hv
    simp only [Builtin.len_,ht]
    simp only [List.getElem?_toArray,List.getElem?_cons_zero,Sem.run_bind,run_under hu w,Result.andThen_ok,hn]
    rfl
   ·cases h
  ·cases h
theorem rowL_cells {z : Nat} {l : Leaf} {ls : List Leaf} {n : Nat} (h : rowL m z l = some ls) (hn : lenS l = some n) (h0 : n ≠ 0) (hM : M O ρ E m.bs w) {v : Value} (hv : l.sat ρ E v) :
  ls.length = n * z ∧ ∃ (b off cap : Nat) (vs : List Value),v = .slice (some ⟨b,off,none⟩) n cap ∧ sats ρ E ls vs ∧ vs.length = n * z ∧ ∀ j u,vs[j]? = some u → w.cell? ⟨b,off + j,none⟩ = some u := by
 have main : ∀ {id off len : Nat},(match getB m id with
   | some b=>if off + len * z ≤ b.cells.length then some ((b.cells.drop off).take (len * z)) else none
   | none=>none) = some ls → ∀ {L : Loc} {cap : Nat},ρ id = some L → v = .slice (some ⟨L.n,off,none⟩) len cap → ls.length = len * z ∧ ∃ (b off cap : Nat) (vs : List Value),v = .slice (some ⟨b,off,none⟩) len cap ∧ sats ρ E ls vs ∧ vs.length = len * z ∧ ∀ j u,vs[j]? = some u → w.cell? ⟨b,off + j,none⟩ = some u := fun {id off len} h {L cap} hL hv=>by
  split at h
  ·rename_i b hb
   obtain ⟨h1,h2,h3⟩ := getB_ok hb
   split at h
   ·rename_i hle
    injection h with h
    obtain ⟨L',vs,k1,k2,k3,k4,bt5,k5,kty⟩ := hM.plain h1 h3
    rw [h2,hL] at k1
    obtain rfl : L = L' := by injection k1
    have hvl := sats_le k2
    refine ⟨by rw [← h]; exact take_drop_len hle,L.n,off,cap,(vs.drop off).take (len * z),hv,by rw [← h]; exact sats_take _ (sats_drop off k2),take_drop_len (by omega),fun j u hu=>?_⟩
    rw [cell_at k5]
    have hj : j < len * z := by have := (List.getElem?_eq_some_iff.1 hu).1; rw [take_drop_len (by omega)] at this; exact this
    rw [List.getElem?_take_of_lt hj,List.getElem?_drop] at hu
    exact hu
   ·cases h
  ·cases h
 cases l with
 | nilS=>simp only [lenS] at hn; injection hn with hn; exact absurd hn.symm h0
 | slc id off len cap =>
  simp only [lenS] at hn
  injection hn with hn; subst hn
  obtain ⟨L,hL,hv⟩ := hv
  exact main h hL hv
 | slu id off len sz =>
  simp only [lenS] at hn
  injection hn with hn; subst hn
  obtain ⟨L,cap,hL,_,_,hv⟩ := hv
  exact main h hL hv
 | sla id off len =>
  simp only [lenS] at hn
  injection hn with hn; subst hn
  obtain ⟨L,cap,hL,_,hv⟩ := hv
  exact main h hL hv
 | _=>simp [rowL] at h
theorem evCopy_ok {t tx ty : TypeId} {d x l : Leaf} (h : evCopy T m t d x = some (l,m')) : St I X E g g m m' ∧
  (∀ O ρ w vd vx,M O ρ E m.bs w → WF m → d.sat ρ E vd → x.sat ρ E vx → ∃ u w',(Builtin.copy_ #[t,tx] ty #[vd,vx]).run P w = .ok u w' ∧ l.sat ρ E u ∧ M O ρ E m'.bs w' ∧ Ext ρ ρ m m' w w') := by
 unfold evCopy at h
 split at h
 ·rename_i e ht
  replace ht := und_ok (P := P) ht
  split at h
  ·rename_i z nd nx hz hd hx
   split at h
   ·cases h
   ·rename_i hn0
    split at h
    ·rename_i new hnew
     split at h
     ·rename_i hfirm
      have hmin1 : min nx nd ≤ nx := Nat.min_le_left _ _
      have hmin2 : min nx nd ≤ nd := Nat.min_le_right _ _
      generalize hnn : min nx nd = n at *
      have main : ∀ {id off : Nat} {m1 : Mem} {l1 : Leaf},(match getB m id with
        | some b=>if off + n * z ≤ b.cells.length then some (Leaf.int .i64 (.c (n : Nat)),setB m id (place b.cells off (new.take (n * z)))) else none
        | none=>none) = some (l1,m1) → St I X E g g m m1 ∧
         ∀ O ρ w vx L cap,M O ρ E m.bs w → WF m → ρ id = some L → x.sat ρ E vx → ∃ u w',(Builtin.copy_ #[t,tx] ty #[.slice (some ⟨L.n,off,none⟩) nd cap,vx]).run P w = .ok u w' ∧ l1.sat ρ E u ∧ M O ρ E m1.bs w' ∧ Ext ρ ρ m m1 w w' := fun {id off m1 l1} h=>by
       split at h
       ·rename_i b hb
        obtain ⟨h1,h2,h3⟩ := getB_ok hb
        split at h
        ·rename_i hle
         injection h with h; injection h with e1 e2; subst e1; subst e2
         refine ⟨St.setB (fun H=>H),fun O ρ w vx L cap hM hW hL hv=>?_⟩
         obtain ⟨l1,sb,so,sc,vs,rfl,s1,s2,s3⟩ := rowL_cells hnew hx (by omega) hM hv
         obtain ⟨L',bv,k1,k2,k3,k4,bt5,k5,kty⟩ := hM.plain h1 h3
         rw [h2,hL] at k1
         obtain rfl : L = L' := by injection k1
         have hbl := sats_le k2
         have hnz : n * z ≤ nx * z := Nat.mul_le_mul_right _ hmin1
         have htl : (vs.take (n * z)).length = n * z := by simp; omega
         have hts : sats ρ E (new.take (n * z)) (vs.take (n * z)) := sats_take _ s1
         have hpl := firms_plain hfirm hts (by simp; omega)
         obtain ⟨c1,c2,c3⟩ := setCells_placed (o := off) (vs := vs.take (n * z)) k5
         have hth := there_of (k := n * z) (off := off) k5 (by omega)
         have hst := run_storeCells_cells (P := P) L.n off (vs.take (n * z)) 0 w (fun j hj=>by have := (hth j (by omega)).1; simpa using this) (fun j hj=>by have := (hth j (by omega)).2; simpa using this) (fun y hy=>plain_one (hpl y hy))
         simp only [Nat.add_zero] at hst
         have hfc := run_firstCells_some (P := P) w z n ⟨sb,so,none⟩ nx sc (vs.take (n * z)) htl (fun j u hu=>by
          rw [Addr.add_mid]
          have hj : j < n * z := by have := (List.getElem?_eq_some_iff.1 hu).1; omega
          rw [List.getElem?_take_of_lt hj] at hu
          exact s3 j u hu)
         have := store_ok hM hW h1 h3 (by rw [h2]; exact hL) (place_ok off (by simp; omega) hts k2) (by rw [placeV_len]; exact k4) kty c1 c2 c3 (setCells_io _ _ _ _)
         rw [h2] at this
         refine ⟨.int .i64 (n : Nat),_,?_,rfl,this.1,this.2⟩
         have hm : Nat.min nx nd = n := hnn
         simp [Builtin.copy_,run_under ht,Builtin.lenOf,hm,run_sizeT hz,hfc,hst,goInt]
        ·cases h
       ·cases h
      split at h
      ·rename_i id off len cap
       obtain ⟨q1,q2⟩ := main h
       simp only [lenS] at hd
       injection hd with hd; subst hd
       refine ⟨q1,fun O ρ w vd vx hM hW hvd hvx=>?_⟩
       obtain ⟨L,hL,rfl⟩ := hvd
       exact q2 O ρ w vx L cap hM hW hL hvx
      ·rename_i id off len sz
       obtain ⟨q1,q2⟩ := main h
       simp only [lenS] at hd
       injection hd with hd; subst hd
       refine ⟨q1,fun O ρ w vd vx hM hW hvd hvx=>?_⟩
       obtain ⟨L,cap,hL,_,_,rfl⟩ := hvd
       exact q2 O ρ w vx L cap hM hW hL hvx
      ·rename_i id off len
       obtain ⟨q1,q2⟩ := main h
       simp only [lenS] at hd
       injection hd with hd; subst hd
       refine ⟨q1,fun O ρ w vd vx hM hW hvd hvx=>?_⟩
       obtain ⟨L,cap,hL,_,rfl⟩ := hvd
       exact q2 O ρ w vx L cap hM hW hL hvx
      ·cases h
     ·cases h
    ·cases h
  ·cases h
 ·cases h
def StepOk (C : Cx) (O : Objs) (I : Nat → Int) (X : Nat → List Int → Int) (E : Nat → Int) (m m' : Mem) (pc : Ref) (g g' : Gl) (v : SV) (Pre : Map → Act → Prop) (o : Oper) : Prop :=
 (WF m → St I X E g g' m m') ∧ (Good I X E g' → ∀ ρ a w,Pre ρ a → GlobOk C ρ → M O ρ E m.bs w → WF m → truth (pc.val E) = true → Fresh ρ m.nb m'.nb →
  ∀ (K : Act → World → Prop) (Q : Exit → Act → World → Prop),(∀ ρ' u w',v.sat ρ' E u → M O ρ' E m'.bs w' → Ext ρ ρ' m m' w w' → K (a.put o.dst u) w') → o.wp C.P a w K Q)
theorem arr2 {α : Type} {xs : Array α} {a b : α} (h : xs.toList = [a,b]) : xs = #[a,b] := by
 cases xs; simp at h; simp [h]
theorem evCall_ok {call : CallF} (hcall : CallOk C O I X E call) {c : Call} {dst : Option Tmp} {type : TypeId} {pos : String} {after : Array Edge} {guard : Option (Nat × Bool)}
  (h : evCall C call ev m pc g c = some (v,m',g')) : StepOk C O I X E m m' pc g g' v (fun ρ a=>EvOk ρ E ev a (Op.call c).operands.toList) ⟨dst,.call c,type,pos,after,guard⟩ := by
 obtain ⟨callee,args,argTypes⟩ := c
 unfold evCall at h
 split at h
 ·cases h
 ·rename_i svs hsv
  have hargs : ∀ {ρ : Map} {a : Act},EvOk ρ E ev a (Op.call ⟨callee,args,argTypes⟩).operands.toList → satVs ρ E svs (args.toList.map a.eval) := fun {ρ a} ho =>
   evList_ok (ops := (Op.call ⟨callee,args,argTypes⟩).operands.toList) (fun x hx=>by simp [Op.operands,Call.operands]; exact .inr (by simpa using hx)) ho hsv
  have hmap : ∀ {a : Act},args.map a.eval = (args.toList.map a.eval).toArray := fun {a}=>by rw [← Array.toList_map]
  have built : ∀ {b : Builtin} {s : Array Value → Go.Sem Value} {ρ ρ' : Map} {a : Act} {w w' : World} {u : Value} {K : Act → World → Prop} {Q : Exit → Act → World → Prop},
    callee = .builtin b → (∀ cs asq,builtin b argTypes type cs asq = (do pure (.value (← s asq)))) → (s (args.map a.eval)).run C.P w = .ok u w' → K (a.put dst u) w' → (Oper.mk dst (.call ⟨callee,args,argTypes⟩) type pos after guard).wp C.P a w K Q :=
   fun {b s ρ ρ' a w w' u K Q} hb hs hr hk=>by
   subst hb
   unfold Oper.wp execOp
   simp only [resolve,Sem.run_bind,Sem.run_pure,Result.andThen_ok,invoke,hs,hr]
   exact hk
  split at h
  ·rename_i hce
   split at h
   ·rename_i l ls ho1
    split at h
    ·rename_i z g1 hm
     injection h with h; injection h with e1 e; injection e with e2 e3; subst e1; subst e2; subst e3
     obtain ⟨q1,q2⟩ := evMin_ok (I := I) (X := X) (E := E) hm
     refine ⟨fun _=>St.of_good q1,fun H ρ a w ho hG hM hW hp hf K Q hK=>?_⟩
     obtain ⟨k1,k2⟩ := ones_ok ho1 (hargs ho)
     cases hvs : args.toList.map a.eval with
     | nil=>rw [hvs] at k2; simp at k2
     | cons v0 vs =>
      rw [hvs] at k1 k2
      obtain ⟨u,r1,r2⟩ := q2 H C.P ρ v0 vs w k1.1 k1.2 (by simpa using k2)
      refine built (ρ := ρ) (ρ' := ρ) hce (s := fun asq=>Builtin.min_ argTypes type asq) (fun _ _=>rfl) (u := u) (w' := w) ?_ (hK ρ u w r2 hM Ext.rfl')
      rw [hmap,hvs]
      exact r1
    ·cases h
   ·cases h
  ·rename_i hce
   split at h
   ·rename_i l ls ho1
    split at h
    ·rename_i z g1 hm
     injection h with h; injection h with e1 e; injection e with e2 e3; subst e1; subst e2; subst e3
     obtain ⟨q1,q2⟩ := evMin_ok (I := I) (X := X) (E := E) hm
     refine ⟨fun _=>St.of_good q1,fun H ρ a w ho hG hM hW hp hf K Q hK=>?_⟩
     obtain ⟨k1,k2⟩ := ones_ok ho1 (hargs ho)
     cases hvs : args.toList.map a.eval with
     | nil=>rw [hvs] at k2; simp at k2
     | cons v0 vs =>
      rw [hvs] at k1 k2
      obtain ⟨u,r1,r2⟩ := q2 H C.P ρ v0 vs w k1.1 k1.2 (by simpa using k2)
      refine built (ρ := ρ) (ρ' := ρ) hce (s := fun asq=>Builtin.max_ argTypes type asq) (fun _ _=>rfl) (u := u) (w' := w) ?_ (hK ρ u w r2 hM Ext.rfl')
      rw [hmap,hvs]
      exact r1
    ·cases h
   ·cases h
  ·rename_i hce
   split at h
   ·rename_i x t hat
    split at h
    ·rename_i n hn
     injection h with h; injection h with e1 e; injection e with e2 e3; subst e1; subst e2; subst e3
     refine ⟨fun _=>St.rfl',fun H ρ a w ho hG hM hW hp hf K Q hK=>?_⟩
     have hv := hargs ho
     cases hvs : args.toList.map a.eval with
     | nil=>rw [hvs] at hv; exact hv.elim
     | cons v0 vs =>
      rw [hvs] at hv
      cases vs with
      | cons _ _=>exact hv.2.elim
      | nil =>
       refine built (ρ := ρ) (ρ' := ρ) hce (s := fun asq=>Builtin.len_ argTypes type asq) (fun _ _=>rfl) (u := .int .i64 (n.val E)) (w' := w) ?_ (hK ρ _ w rfl hM Ext.rfl')
       rw [hmap,hvs]
       exact lenO_ok hn hv.1 hat type w
    ·split at h
     ·rename_i e hu
      replace hu := und_ok (P := C.P) hu
      split at h
      rotate_left
      ·cases h
      rename_i l
      split at h
      ·rename_i n g1 hn
       injection h with h; injection h with e1 e; injection e with e2 e3; subst e1; subst e2; subst e3
       obtain ⟨q1,q2⟩ := lenLf_ok (I := I) (X := X) (E := E) hn
       refine ⟨fun _=>St.of_good q1,fun H ρ a w ho hG hM hW hp hf K Q hK=>?_⟩
       have hv := hargs ho
       cases hvs : args.toList.map a.eval with
       | nil=>rw [hvs] at hv; exact hv.elim
       | cons v0 vs =>
        rw [hvs] at hv
        cases vs with
        | cons _ _=>exact hv.2.elim
        | nil =>
         obtain ⟨ad,len,cap,e0,hlen⟩ := q2 H ρ v0 hv.1
         refine built (ρ := ρ) (ρ' := ρ) hce (s := fun asq=>Builtin.len_ argTypes type asq) (fun _ _=>rfl) (u := .int .i64 (n.val E)) (w' := w) ?_ (hK ρ _ w rfl hM Ext.rfl')
         rw [hmap,hvs,e0]
         simp only [Builtin.len_,hat]
         simp only [List.getElem?_toArray,List.getElem?_cons_zero,Sem.run_bind,run_under hu w,Result.andThen_ok,hlen]
         rfl
      ·cases h
     ·cases h
   ·cases h
  ·rename_i hce
   split at h
   ·rename_i s x t u hts
    split at h
    ·rename_i e' hu
     replace hu := und_ok (P := C.P) hu
     split at h
     ·rename_i l m1 ha
      injection h with h; injection h with e1 e; injection e with e2 e3; subst e1; subst e2; subst e3
      obtain ⟨q1,q2⟩ := evAppend_ok (P := C.P) (I := I) (X := X) (E := E) (g := g) (ty := type) hu ha
      refine ⟨fun _=>q1,fun H ρ a w ho hG hM hW hp hf K Q hK=>?_⟩
      have hv := hargs ho
      cases hvs : args.toList.map a.eval with
      | nil=>rw [hvs] at hv; exact hv.elim
      | cons v0 vs =>
       cases vs with
       | nil=>rw [hvs] at hv; exact hv.2.elim
       | cons v1 vs =>
        rw [hvs] at hv
        cases vs with
        | cons _ _=>exact hv.2.2.elim
        | nil =>
         obtain ⟨ρ',u1,w',r1,r2,r3,r4⟩ := q2 O ρ w v0 v1 hM hW hf hv.1 hv.2.1
         refine built (ρ := ρ) (ρ' := ρ) hce (s := fun asq=>Builtin.append_ argTypes type asq) (fun _ _=>rfl) (u := u1) (w' := w') ?_ (hK ρ' u1 w' r2 r3 r4)
         have h2 : argTypes = #[t,u] := arr2 hts
         rw [hmap,hvs,h2]
         exact r1
     ·split at h
      ·rename_i l m1 g1 ha
       injection h with h; injection h with e1 e; injection e with e2 e3; subst e1; subst e2; subst e3
       obtain ⟨q1,q2⟩ := evAppM_ok (P := C.P) (I := I) (X := X) (E := E) (ty := type) hu ha
       refine ⟨fun _=>q1,fun H ρ a w ho hG hM hW hp hf K Q hK=>?_⟩
       have hv := hargs ho
       cases hvs : args.toList.map a.eval with
       | nil=>rw [hvs] at hv; exact hv.elim
       | cons v0 vs =>
        cases vs with
        | nil=>rw [hvs] at hv; exact hv.2.elim
        | cons v1 vs =>
         rw [hvs] at hv
         cases vs with
         | cons _ _=>exact hv.2.2.elim
         | nil =>
          obtain ⟨ρ',u1,w',r1,r2,r3,r4⟩ := q2 H hp O ρ w v0 v1 hM hW hf hv.1 hv.2.1
          refine built (ρ := ρ) (ρ' := ρ) hce (s := fun asq=>Builtin.append_ argTypes type asq) (fun _ _=>rfl) (u := u1) (w' := w') ?_ (hK ρ' u1 w' r2 r3 r4)
          have h2 : argTypes = #[t,u] := arr2 hts
          rw [hmap,hvs,h2]
          exact r1
      ·cases h
    ·cases h
   ·cases h
  ·rename_i hce
   split at h
   ·rename_i d x t u hts
    split at h
    ·rename_i l m1 ha
     injection h with h; injection h with e1 e; injection e with e2 e3; subst e1; subst e2; subst e3
     obtain ⟨q1,q2⟩ := evCopy_ok (P := C.P) (I := I) (X := X) (E := E) (g := g) (tx := u) (ty := type) ha
     refine ⟨fun _=>q1,fun H ρ a w ho hG hM hW hp hf K Q hK=>?_⟩
     have hv := hargs ho
     cases hvs : args.toList.map a.eval with
     | nil=>rw [hvs] at hv; exact hv.elim
     | cons v0 vs =>
      cases vs with
      | nil=>rw [hvs] at hv; exact hv.2.elim
      | cons v1 vs =>
       rw [hvs] at hv
       cases vs with
       | cons _ _=>exact hv.2.2.elim
       | nil =>
        obtain ⟨u1,w',r1,r2,r3,r4⟩ := q2 O ρ w v0 v1 hM hW hv.1 hv.2.1
        refine built (ρ := ρ) (ρ' := ρ) hce (s := fun asq=>Builtin.copy_ argTypes type asq) (fun _ _=>rfl) (u := u1) (w' := w') ?_ (hK ρ u1 w' r2 r3 r4)
        have h2 : argTypes = #[t,u] := arr2 hts
        rw [hmap,hvs,h2]
        exact r1
    ·cases h
   ·cases h
  ·rename_i f hce
   split at h
   ·rename_i fid caps hl
    obtain ⟨⟨fn,cd,hfn,hbody,hname⟩,q1,q2⟩ := hcall _ _ _ _ _ _ _ _ h
    refine ⟨q1,fun H ρ a w ho hG hM hW hp hf K Q hK=>?_⟩
    have hce' : callee = .value f := hce
    subst hce'
    obtain ⟨us,e,hus⟩ := ho.one (x := f) (by simp [Op.operands,Call.operands]) hl
    have hall := satVs_app (hargs ho) (capsOf_ok hus)
    have hc := q2 H ρ _ w hall hG hM hW hp hf
    unfold Oper.wp execOp
    have harr : #[] ++ args.map a.eval ++ us.toArray = (args.toList.map a.eval ++ us).toArray := by rw [hmap]; simp
    have hcf : (callFunc fid (args.toList.map a.eval ++ us).toArray).run C.P w = .ok (.enter fid (args.toList.map a.eval ++ us).toArray) w := by
     unfold callFunc
     simp only [program,Sem.run_bind,Sem.run,Result.andThen_ok,hfn]
     rw [if_neg (by simpa using hname),if_neg (by simp [hbody])]
     rfl
    simp only [resolve,e,Deferred.ofValue,Sem.run_bind,Sem.run_pure,Result.andThen_ok,invoke,harr,hcf]
    refine Calls.mono hc fun en w' hen=>?_
    obtain ⟨ρ',u,rfl,r1,r2,r3⟩ := hen
    exact hK ρ' u w' r1 r2 r3
   ·cases h
  ·cases h
theorem evAny_ok {call : CallF} (hcall : CallOk C O I X E call) {o : Oper} (h : evAny C call ev m pc g o = some (v,m',g')) : StepOk C O I X E m m' pc g g' v (fun ρ a=>EvOk ρ E ev a o.op.operands.toList) o := by
 obtain ⟨dst,op,type,pos,after,guard⟩ := o
 have plain : evOp C ev m pc g ⟨dst,op,type,pos,after,guard⟩ = some (v,m',g') → StepOk C O I X E m m' pc g g' v (fun ρ a=>EvOk ρ E ev a op.operands.toList) ⟨dst,op,type,pos,after,guard⟩ := fun h=>by
  obtain ⟨q1,q2⟩ := evOp_ok (I := I) (X := X) (E := E) h
  refine ⟨fun _=>q1,fun H ρ a w ho hG hM hW hp hf K Q hK=>?_⟩
  obtain ⟨ρ',u,w',r1,r2,r3,r4⟩ := q2 H O ρ a w ho hM hW hp hf
  unfold Oper.wp
  rcases r1 with r1 | ⟨r1,rfl⟩
  ·rw [r1]; exact hK ρ' u w' r2 r3 r4
  ·rw [r1]; exact hK ρ' undef w' r2 r3 r4
 unfold evAny at h
 cases op with
 | call c=>exact evCall_ok hcall h
 | _=>exact plain h
def TmpOk (ρ : Map) (E : Nat → Int) (ops : Array Oper) (ts : List SV) (o : Oper) (a : Act) : Prop := ∀ t ∈ o.looksAt ops,∀ x : SV,ts[t]? = some x → x.sat ρ E (a.tmps.getD t undef)
omit [TyOk C.P C.T] in
theorem TmpOk.evs {ops : Array Oper} {ts : List SV} {o : Oper} {a : Act} (h : TmpOk ρ E ops ts o a) (hG : GlobOk C ρ) : EvOk ρ E (evX C ts) a o.op.operands.toList := fun x hx sv hsv =>
 evX_ok (fun t ht y hy=>h t (by
  subst ht
  exact List.mem_append_left _ (List.mem_filterMap.2 ⟨.tmp t,by simpa using hx,rfl⟩)) y hy) hG hsv
theorem allC_app {a b : List (Ref × Bool)} : allC E (a ++ b) = (allC E a && allC E b) := by simp [allC]
theorem unwV_ok {cs : List (Ref × Bool)} {x : SV} {u : Value} (h : x.sat ρ E u) (hc : allC E cs = true) : (unwV cs x).sat ρ E u := by
 unfold unwV
 split
 ·rename_i ds y
  have key : allC E (ds.filter fun d=>decide (d ∉ cs)) = allC E ds := by
   unfold allC at hc ⊢
   rw [List.all_eq_true] at hc
   rw [Bool.eq_iff_iff,List.all_eq_true,List.all_eq_true]
   refine ⟨fun h d hd=>?_,fun h d hd=>h d (List.mem_filter.1 hd).1⟩
   by_cases hm : d ∈ cs
   ·exact hc d hm
   ·exact h d (List.mem_filter.2 ⟨hd,by simpa using hm⟩)
  dsimp only
  split
  ·rename_i hr
   refine h.1 ?_
   rw [← key,hr]; rfl
  ·exact ⟨fun hr=>h.1 (by rw [← key]; exact hr),fun hr=>h.2 (by rw [← key]; exact hr)⟩
 ·exact h
theorem conjC_ok : ∀ {cs : List (Ref × Bool)} {r : Ref} {g g' : Gl},conjC cs g = (r,g') → (Good I X E g' → Good I X E g) ∧ (Good I X E g' → truth (r.val E) = allC E cs)
 | [],r,g,g',h=>by
  simp only [conjC,Prod.mk.injEq] at h
  obtain ⟨rfl,rfl⟩ := h
  exact ⟨fun H=>H,fun _=>rfl⟩
 | (q,w) :: cs,r,g,g',h=>by
  simp only [conjC] at h
  rcases h0 : (if w = true then (q,g) else g.not q) with ⟨x,g0⟩
  rw [h0] at h
  simp only at h
  rcases h1 : conjC cs g0 with ⟨y,g1⟩
  rw [h1] at h
  simp only at h
  obtain ⟨k1,k2⟩ := conjC_ok h1
  have hx : (Good I X E g0 → Good I X E g) ∧ (Good I X E g0 → truth (x.val E) = (truth (q.val E) == w)) := by
   cases w with
   | true =>
    simp only [if_true,Prod.mk.injEq] at h0
    obtain ⟨rfl,rfl⟩ := h0
    exact ⟨fun H=>H,fun _=>by simp⟩
   | false =>
    simp only [Bool.false_eq_true,if_false] at h0
    exact ⟨fun H=>(not_ok h0 H).1,fun H=>by rw [(not_ok h0 H).2]; cases truth (q.val E) <;> rfl⟩
  refine ⟨fun H=>hx.1 (k1 (and_ok h H).1),fun H=>?_⟩
  obtain ⟨H1,ha⟩ := and_ok h H
  rw [ha,hx.2 (k1 H1),k2 H1]
  simp [allC]
theorem guardV_ok {gv : SV} {cs : List (Ref × Bool)} {r : Ref} (h : guardV gv = some (cs,r)) {u : Value} (hs : gv.sat ρ E u) : (allC E cs = true → u = .bool (truth (r.val E))) ∧ (allC E cs = false → u = undef) := by
 unfold guardV at h
 split at h
 ·simp only [Option.some.injEq,Prod.mk.injEq] at h
  obtain ⟨rfl,rfl⟩ := h
  exact ⟨fun _=>hs,fun hc=>by simp [allC] at hc⟩
 ·simp only [Option.some.injEq,Prod.mk.injEq] at h
  obtain ⟨rfl,rfl⟩ := h
  exact ⟨fun hc=>hs.1 hc,hs.2⟩
 ·cases h
def GuardOk (C : Cx) (O : Objs) (I : Nat → Int) (X : Nat → List Int → Int) (E : Nat → Int) (ops : Array Oper) (ts : List SV) (m m' : Mem) (pc : Ref) (g g' : Gl) (v : SV) (o : Oper) : Prop :=
 (WF m → St I X E g g' m m') ∧ (Good I X E g' → ∀ ρ a w,TmpOk ρ E ops ts o a → (∀ t ∈ o.looksAt ops,t < ts.length → t < a.tmps.size) → GlobOk C ρ → M O ρ E m.bs w → WF m → truth (pc.val E) = true → Fresh ρ m.nb m'.nb →
  ∀ (K : Act → World → Prop) (Q : Exit → Act → World → Prop),(∀ ρ' u w',v.sat ρ' E u → M O ρ' E m'.bs w' → Ext ρ ρ' m m' w w' → K (a.put o.dst u) w') →
   if Region.wanted o (yielded ops a.tmps) = true then o.wp C.P a w K Q else K (a.put o.dst undef) w)
theorem evOper_ok {call : CallF} (hcall : CallOk C O I X E call) {ops : Array Oper} {ts : List SV} {o : Oper} (h : evOper C call ops ts m pc g o = some (v,m',g')) : GuardOk C O I X E ops ts m m' pc g g' v o := by
 unfold evOper at h
 split at h
 ·rename_i hgd
  obtain ⟨q1,q2⟩ := evAny_ok hcall h
  refine ⟨q1,fun H ρ a w hT hlen hG hM hW hp hf K Q hK=>?_⟩
  rw [if_pos (by simp [Region.wanted,hgd])]
  exact q2 H ρ a w (hT.evs hG) hG hM hW hp hf K Q hK
 ·rename_i j want hgd
  have slot : ∀ {gv : SV},((ops[j]?).bind (·.dst)).bind (ts[·]?) = some gv → ∀ {ρ : Map} {a : Act},TmpOk ρ E ops ts o a → (∀ t ∈ o.looksAt ops,t < ts.length → t < a.tmps.size) →
    ∃ u,gv.sat ρ E u ∧ Region.wanted o (yielded ops a.tmps) = (match u with | .bool b=>b == want | _=>false) := fun {gv} htm {ρ a} hT hlen=>by
   obtain ⟨t,htd,hts⟩ := Option.bind_eq_some_iff.1 htm
   have hlook : t ∈ o.looksAt ops := by
    unfold Oper.looksAt
    rw [hgd]
    exact List.mem_append_right _ (by simp [htd])
   have hs := hT t hlook _ hts
   have hlt := hlen t hlook (List.getElem?_eq_some_iff.1 hts).1
   refine ⟨a.tmps.getD t undef,hs,?_⟩
   simp only [Region.wanted,hgd,yielded,htd,Option.bind_some,Array.getElem?_eq_getElem hlt]
   rw [Array.getD_eq_getD_getElem?,Array.getElem?_eq_getElem hlt]
   simp only [Option.getD_some]
   cases a.tmps[t] with
   | bool b=>cases b <;> cases want <;> rfl
   | _=>cases want <;> rfl
  have pass : ∀ {g0 : Gl},(∀ {ρ : Map} {a : Act},TmpOk ρ E ops ts o a → (∀ t ∈ o.looksAt ops,t < ts.length → t < a.tmps.size) → Region.wanted o (yielded ops a.tmps) = false) → GuardOk C O I X E ops ts m m pc g0 g0 (.tup []) o := fun {g0} hn =>
   ⟨fun _=>St.rfl',fun H ρ a w hT hlen hG hM hW hp hf K Q hK=>by
    rw [if_neg (by rw [hn hT hlen]; simp)]
    exact hK ρ undef w ⟨[],rfl,trivial⟩ hM Ext.rfl'⟩
  split at h
  ·rename_i htm
   injection h with h; injection h with e1 e; injection e with e2 e3; subst e1; subst e2; subst e3
   refine pass fun {ρ a} hT hlen=>?_
   obtain ⟨u,⟨vs,rfl,hvs⟩,hw⟩ := slot htm hT hlen
   rw [hw]
  ·rename_i gv hne htm
   split at h
   ·rename_i cs r hgv
    have wants : ∀ {ρ : Map} {a : Act},TmpOk ρ E ops ts o a → (∀ t ∈ o.looksAt ops,t < ts.length → t < a.tmps.size) → Region.wanted o (yielded ops a.tmps) = (allC E cs && (truth (r.val E) == want)) := fun {ρ a} hT hlen=>by
     obtain ⟨u,hu,hw⟩ := slot htm hT hlen
     obtain ⟨k1,k2⟩ := guardV_ok hgv hu
     rw [hw]
     cases hc : allC E cs with
     | true=>rw [k1 hc]; simp
     | false=>rw [k2 hc]; rfl
    split at h
    ·rename_i hl
     injection h with h; injection h with e1 e; injection e with e2 e3; subst e1; subst e2; subst e3
     refine pass fun {ρ a} hT hlen=>?_
     rw [wants hT hlen]
     rcases hl with ⟨rfl,rfl⟩ | ⟨rfl,rfl⟩ <;> simp [Ref.val,truth]
    ·split at h
     ·rename_i hl
      obtain ⟨rfl,hl⟩ := hl
      obtain ⟨q1,q2⟩ := evAny_ok hcall h
      refine ⟨q1,fun H ρ a w hT hlen hG hM hW hp hf K Q hK=>?_⟩
      rw [if_pos (by rw [wants hT hlen]; rcases hl with ⟨rfl,rfl⟩ | ⟨rfl,rfl⟩ <;> simp [Ref.val,truth,allC])]
      exact q2 H ρ a w (hT.evs hG) hG hM hW hp hf K Q hK
     ·rcases h0 : conjC (cs ++ [(r,want)]) g with ⟨nr,g0⟩
      rcases h1 : g0.and pc nr with ⟨pc',g1⟩
      simp only [h0,h1] at h
      obtain ⟨c1,c2⟩ := conjC_ok (I := I) (X := X) (E := E) h0
      have wants2 : ∀ {ρ : Map} {a : Act},TmpOk ρ E ops ts o a → (∀ t ∈ o.looksAt ops,t < ts.length → t < a.tmps.size) → Region.wanted o (yielded ops a.tmps) = allC E (cs ++ [(r,want)]) := fun {ρ a} hT hlen=>by
       rw [wants hT hlen,allC_app]
       simp [allC]
      have both : ∀ {x v : SV} {m1 m3 : Mem} {g2 g3 : Gl},evAny C call (fun x=>(evX C ts x).map (unwV (cs ++ [(r,want)]))) m pc' g1 o = some (x,m1,g2) → joinMem nr m1 m g2 = (m3,g3) →
        (∀ ρ u,allC E (cs ++ [(r,want)]) = true → x.sat ρ E u → v.sat ρ E u) → (∀ ρ,allC E (cs ++ [(r,want)]) = false → v.sat ρ E undef) → GuardOk C O I X E ops ts m m3 pc g g3 v o := fun {x v m1 m3 g2 g3} h2 h3 hv1 hv2=>by
       obtain ⟨q1,q2⟩ := evAny_ok hcall h2
       have hgood : WF m → Good I X E g3 → Good I X E g := fun hW H=>c1 (and_ok h1 ((q1 hW).good (joinMem_ok h3 H).1)).1
       obtain ⟨hj1,hj2,hj3⟩ := joinMem_ids h3
       refine ⟨fun hW=>⟨hgood hW,by rw [hj2]; omega,fun b hb=>?_,fun hW=>hj3 ((q1 hW).wf hW) hW⟩,fun H ρ a w hT hlen hG hM hW hp hf K Q hK=>?_⟩
       ·rcases hj1 b hb with ⟨b1,hb1,e⟩ | ⟨b1,hb1,e⟩
        ·rcases (q1 hW).ids b1 hb1 with ⟨b0,hb0,e0⟩ | h
         ·exact .inl ⟨b0,hb0,e0.trans e⟩
         ·exact .inr (by rw [hj2]; omega)
        ·exact .inl ⟨b1,hb1,e⟩
       have hnb := (q1 hW).nb
       obtain ⟨H2,kj⟩ := joinMem_ok h3 H
       have H1 := (q1 hW).good H2
       obtain ⟨H0,hpc⟩ := and_ok h1 H1
       have hn := c2 H0
       rw [wants2 hT hlen]
       split
       ·rename_i ht
        have hf1 : Fresh ρ m.nb m1.nb := hf.sub (Nat.le_refl _) (by rw [hj2]; omega)
        refine q2 H2 ρ a w (fun x hx sv hsv=>?_) hG hM hW (by rw [hpc,hp,hn,ht]; rfl) hf1 K Q fun ρ' u w' r1 r2 r3=>?_
        ·obtain ⟨y,hy,rfl⟩ := mapv hsv
         exact unwV_ok ((hT.evs hG) x hx y hy) ht
        ·refine hK ρ' u w' (hv1 ρ' u ht r1) (kj O ρ' w' (fun _=>r2) (fun hc=>by rw [hn,ht] at hc; cases hc)) ⟨r3.le,r3.size,r3.keep,fun k=>?_,r3.new,r3.io⟩
         rcases r3.chg k with (h | h) | h
         ·exact .inl (.inl ⟨h.1,by rw [hj2]; omega⟩)
         ·exact .inl (.inr h)
         ·exact .inr h
       ·rename_i ht
        have ht' : allC E (cs ++ [(r,want)]) = false := by simpa using ht
        exact hK ρ undef w (hv2 ρ ht') (kj O ρ w (fun hc=>by rw [hn,ht'] at hc; cases hc) (fun _=>hM)) ⟨Lk.rfl',Nat.le_refl _,fun _ _ _=>rfl,fun _=>.inr rfl,fun _ _ _ h=>absurd rfl h,Go.RowKit.Below.refl 0 w⟩
      split at h
      ·rename_i z m1 g2 h2
       rcases h3 : joinMem nr m1 m g2 with ⟨m3,g3⟩
       simp only [h3] at h
       injection h with h; injection h with e1 e; injection e with e2 e3; subst e1; subst e2; subst e3
       exact both h2 h3 (fun ρ u ht hs=>⟨fun _=>hs,fun hc=>(by rw [ht] at hc; cases hc)⟩) (fun ρ ht=>⟨fun hc=>(by rw [ht] at hc; cases hc),fun _=>rfl⟩)
      ·rename_i ds z m1 g2 h2
       rcases h3 : joinMem nr m1 m g2 with ⟨m3,g3⟩
       simp only [h3] at h
       injection h with h; injection h with e1 e; injection e with e2 e3; subst e1; subst e2; subst e3
       refine both h2 h3 (fun ρ u ht hs=>⟨fun hc=>hs.1 ?_,fun hc=>hs.2 ?_⟩) (fun ρ ht=>⟨fun hc=>?_,fun _=>rfl⟩)
       ·rw [allC_app,ht] at hc; simpa using hc
       ·rw [allC_app,ht] at hc; simpa using hc
       ·rw [allC_app,ht] at hc; simp at hc
      ·cases h
   ·cases h
  ·cases h
end
section
variable {O : Objs} {I : Nat → Int} {X : Nat → List Int → Int} {ρ : Map} {E : Nat → Int} {w w' : World} {m m' : Mem} {g g' : Gl} {C : Cx} [TyOk C.P C.T] {call : CallF} {ops : Array Oper}
theorem evOpers_ok (hcall : CallOk C O I X E call) : ∀ (l : List Oper) (i : Nat) (s s' : Lo) (g g' : Gl),ops.toList.drop i = l → evOpers C call ops l s g = some (s',g') →
  (WF s.mem → St I X E g g' s.mem s'.mem) ∧ (Good I X E g' → ∀ ρ a w,R O ρ E s a w → GlobOk C ρ → WF s.mem → Fresh ρ s.mem.nb s'.mem.nb →
   ∀ Q : Exit → Act → World → Prop,(∀ ρ' a' w',R O ρ' E s' a' w' → Ext ρ ρ' s.mem s'.mem w w' → Q .normal a' w') → wpOps C.P ops Q (List.range' i l.length) a w)
 | [],i,s,s',g,g',_,h=>by
  simp only [evOpers] at h
  injection h with h; injection h with e1 e2; subst e1; subst e2
  exact ⟨fun _=>St.rfl',fun _ ρ a w hR _ _ _ Q hQ=>hQ ρ a w hR Ext.rfl'⟩
 | o :: l,i,s,s',g,g',hl,h=>by
  simp only [evOpers] at h
  split at h
  ·rename_i v m1 g1 h1
   obtain ⟨q1,q2⟩ := evOper_ok (O := O) (I := I) (X := X) (E := E) hcall h1
   obtain ⟨hoi,hl'⟩ := drop_cons_get hl
   obtain ⟨r1,r2⟩ := evOpers_ok hcall l (i + 1) _ s' g1 g' hl' h
   refine ⟨fun hW=>(q1 hW).trans (r1 ((q1 hW).wf hW)),fun H ρ a w hR hG hW hf Q hQ=>?_⟩
   have q1 := q1 hW
   have r1 := r1 (q1.wf hW)
   rw [List.length_cons,List.range'_succ,wpOps_cons]
   unfold wpOp
   have hio : ops[i]? = some o := by rw [← Array.getElem?_toList]; exact hoi
   simp only [hio]
   have key := q2 (r1.good H) ρ a w (fun t _ x hx=>hR.tmp t x hx) (fun t _ ht=>Nat.lt_of_lt_of_le ht hR.size) hG hR.mem hW hR.pc (hf.sub (Nat.le_refl _) r1.nb)
    (wpOps C.P ops Q (List.range' (i + 1) l.length)) Q (fun ρ' u w' k1 k2 k3=>by
     refine r2 H ρ' _ w' ⟨by rw [putT_len,put_size]; exact hR.size,tmp_put hR.size (fun j y hy=>SV.mono k3.le y (hR.tmp j y hy)) o.dst k1,by rw [put_defers]; exact hR.defers,k2,hR.pc⟩ (hG.mono k3.le) (q1.wf hW) (hf.step k3 q1) Q fun ρ2 a2 w2 t1 t2=>?_
     exact hQ ρ2 a2 w2 t1 (k3.trans t2 q1 r1 (hf.sub (Nat.le_refl _) r1.nb)))
   split
   ·rename_i hw
    rw [if_pos hw] at key
    exact .inl key
   ·rename_i hw
    rw [if_neg hw] at key
    exact key
  ·cases h
def Shut (ops : Array Oper) (listed : Array Bool) : Prop :=
 ∀ j oj,ops[j]? = some oj → listed.getD j false = true → ∀ e ∈ oj.after,Region.binds .any e = true → listed.getD e.on false = true
theorem shut_set {listed : Array Bool} {i : Nat} (h : Shut ops listed) (hi : i ∈ Region.ready .any ops listed) : Shut ops (listed.setIfInBounds i true) := by
 obtain ⟨_,oi,hoi,hall⟩ := mem_ready.1 hi
 intro j oj hj hl e he hb
 by_cases hij : i = j
 ·subst hij
  obtain rfl : oj = oi := Option.some.inj (hj.symm.trans hoi)
  exact getD_set_true (hall e he hb)
 ·rw [getD_set_ne false hij] at hl
  exact getD_set_true (h j oj hj hl e he hb)
theorem testBit_shl {i j : Nat} (h : (1 <<< j).testBit i = true) : i = j := by
 rw [Nat.one_shiftLeft,Nat.testBit_two_pow] at h
 simpa using Eq.symm (by simpa using h)
theorem fold_bits {acc : List Nat} {i : Nat} : ∀ (es : List Edge) (b : Nat),(es.foldl (fun b e=>if Region.binds .any e then b ||| (1 <<< e.on) ||| acc.getD e.on 0 else b) b).testBit i = true →
  b.testBit i = true ∨ ∃ e ∈ es,Region.binds .any e = true ∧ (e.on = i ∨ (acc.getD e.on 0).testBit i = true)
 | [],b,h=>.inl h
 | e :: es,b,h=>by
  simp only [List.foldl_cons] at h
  rcases fold_bits es _ h with h1 | ⟨e',he',hb,hr⟩
  ·split at h1
   ·rename_i hb
    simp only [Nat.testBit_or,Bool.or_eq_true] at h1
    rcases h1 with (h1 | h1) | h1
    ·exact .inl h1
    ·exact .inr ⟨e,by simp,hb,.inl (testBit_shl h1).symm⟩
    ·exact .inr ⟨e,by simp,hb,.inr h1⟩
   ·exact .inl h1
  ·exact .inr ⟨e',List.mem_cons_of_mem _ he',hb,hr⟩
theorem befs_get : ∀ (l : List Oper) (acc : List Nat) (j i : Nat),((befs l acc).getD j 0).testBit i = true →
  (j < acc.length ∧ (acc.getD j 0).testBit i = true) ∨ ∃ o,l[j - acc.length]? = some o ∧ acc.length ≤ j ∧ ∃ e ∈ o.after,Region.binds .any e = true ∧ (e.on = i ∨ (e.on < j ∧ ((befs l acc).getD e.on 0).testBit i = true))
 | [],acc,j,i,h=>by
  simp only [befs] at h
  left
  refine ⟨?_,h⟩
  rcases Nat.lt_or_ge j acc.length with hj | hj
  ·exact hj
  ·rw [List.getD_eq_getElem?_getD,List.getElem?_eq_none hj] at h; simp at h
 | o :: l,acc,j,i,h=>by
  simp only [befs] at h ⊢
  have pre : ∀ (l : List Oper) (acc : List Nat) (k : Nat),k < acc.length → (befs l acc).getD k 0 = acc.getD k 0 := by
   intro l
   induction l with
   | nil=>intro acc k _; rfl
   | cons o l ih =>
    intro acc k hk
    simp only [befs]
    rw [ih _ k (by simp; omega)]
    simp only [List.getD_eq_getElem?_getD]
    rw [List.getElem?_append_left hk]
  rcases befs_get l _ j i h with ⟨hj,hb⟩ | ⟨o',ho',hle,hr⟩
  ·rcases Nat.lt_or_ge j acc.length with hj' | hj'
   ·left
    refine ⟨hj',?_⟩
    simp only [List.getD_eq_getElem?_getD] at hb ⊢
    rw [List.getElem?_append_left hj'] at hb
    exact hb
   ·right
    have hje : j = acc.length := by simp at hj; omega
    subst hje
    simp only [List.getD_eq_getElem?_getD] at hb
    rw [List.getElem?_append_right (Nat.le_refl _)] at hb
    simp only [Nat.sub_self,List.getElem?_cons_zero,Option.getD_some] at hb
    refine ⟨o,by simp,Nat.le_refl _,?_⟩
    rcases fold_bits (acc := acc) o.after.toList 0 (by simpa [List.getD_eq_getElem?_getD] using hb) with h0 | ⟨e,he,hbd,hr⟩
    ·simp at h0
    ·refine ⟨e,by simpa using he,hbd,?_⟩
     rcases hr with hr | hr
     ·exact .inl hr
     ·right
      have hlt : e.on < acc.length := by
       rcases Nat.lt_or_ge e.on acc.length with h1 | h1
       ·exact h1
       ·rw [List.getD_eq_getElem?_getD,List.getElem?_eq_none h1] at hr; simp at hr
      refine ⟨hlt,?_⟩
      rw [pre l _ e.on (by simp; omega)]
      simp only [List.getD_eq_getElem?_getD] at hr ⊢
      rw [List.getElem?_append_left hlt]
      exact hr
  ·right
   simp only [List.length_append,List.length_singleton] at hle ho'
   refine ⟨o',?_,by omega,hr⟩
   have : j - acc.length = (j - (acc.length + 1)) + 1 := by omega
   rw [this,List.getElem?_cons_succ]
   exact ho'
def Bef (ops : Array Oper) (j i : Nat) : Prop := ((befs ops.toList []).getD j 0).testBit i = true
theorem bef_edge {j i : Nat} (h : Bef ops j i) : ∃ o,ops[j]? = some o ∧ ∃ e ∈ o.after,Region.binds .any e = true ∧ (e.on = i ∨ (e.on < j ∧ Bef ops e.on i)) := by
 rcases befs_get _ _ j i h with ⟨h1,_⟩ | ⟨o,ho,_,hr⟩
 ·simp at h1
 ·exact ⟨o,by rw [← Array.getElem?_toList]; simpa using ho,hr⟩
theorem bef_listed {listed : Array Bool} (hs : Shut ops listed) {i : Nat} : ∀ (j : Nat),listed.getD j false = true → Bef ops j i → listed.getD i false = true := by
 intro j
 induction j using Nat.strongRecOn with
 | _ j ih =>
  intro hl hb
  obtain ⟨o,ho,e,he,hbd,hr⟩ := bef_edge hb
  have h1 := hs j o ho hl e he hbd
  rcases hr with rfl | ⟨hlt,hr⟩
  ·exact h1
  ·exact ih e.on hlt h1 hr
theorem bef_ready {listed : Array Bool} (hs : Shut ops listed) {i j : Nat} (hj : j ∈ Region.ready .any ops listed) (hb : Bef ops j i) : listed.getD i false = true := by
 obtain ⟨o,ho,e,he,hbd,hr⟩ := bef_edge hb
 obtain ⟨_,o',ho',hall⟩ := mem_ready.1 hj
 obtain rfl : o' = o := Option.some.inj (ho'.symm.trans ho)
 have h1 := hall e he hbd
 rcases hr with rfl | ⟨_,hr⟩
 ·exact h1
 ·exact bef_listed hs e.on h1 hr
theorem all_listed (hb : backE ops = true) {listed : Array Bool} (hz : listed.size = ops.size) (h : Region.ready .any ops listed = []) : ∀ j,j < ops.size → listed.getD j false = true := by
 intro j
 induction j using Nat.strongRecOn with
 | _ j ih =>
  intro hj
  cases hl : listed.getD j false with
  | true=>rfl
  | false =>
   exfalso
   have hj' : j < listed.size := by omega
   have ht : listed.getD j true = false := by
    simp only [Array.getD,hj',dif_pos] at hl ⊢
    exact hl
   have : j ∈ Region.ready .any ops listed := mem_ready.2 ⟨ht,ops[j],Array.getElem?_eq_getElem hj,fun e he hbd=>by
    have hall := List.all_eq_true.1 hb (ops[j],j) (by
     rw [List.mem_iff_getElem?]
     refine ⟨j,?_⟩
     rw [List.getElem?_zipIdx]
     simp [hj])
    have h2 := List.all_eq_true.1 hall e (by simpa using he)
    simp only [hbd,Bool.not_true,Bool.false_or,decide_eq_true_eq] at h2
    exact ih e.on h2 (by omega)⟩
   rw [h] at this
   cases this
def left_ (ops : Array Oper) (listed : Array Bool) : Nat := ((List.range ops.size).filter fun j=>!listed.getD j false).length
theorem left_set {listed : Array Bool} {i : Nat} (hi : i < ops.size) (hz : listed.size = ops.size) (h : listed.getD i false = false) : left_ ops (listed.setIfInBounds i true) < left_ ops listed := by
 have he : ((List.range ops.size).filter fun j=>!(listed.setIfInBounds i true).getD j false) = ((List.range ops.size).filter fun j=>!listed.getD j false).filter fun j=>decide (j ≠ i) := by
  rw [List.filter_filter]
  refine List.filter_congr fun j hj=>?_
  by_cases hij : i = j
  ·subst hij
   have : (listed.setIfInBounds i true).getD i false = true := by simp [hz,hi]
   rw [this]; simp
  ·rw [getD_set_ne false hij]
   have : j ≠ i := fun e=>hij e.symm
   simp [this]
 unfold left_
 rw [he,List.length_filter_lt_length_iff_exists]
 exact ⟨i,List.mem_filter.2 ⟨List.mem_range.2 hi,by rw [h]; rfl⟩,by simp⟩
end
section
variable {O : Objs} {I : Nat → Int} {X : Nat → List Int → Int} {ρ ρ1 ρ2 : Map} {E : Nat → Int} {w w' w1 w2 : World} {m m' m1 m2 : Mem} {g g' : Gl} {C : Cx} [TyOk C.P C.T] {call : CallF} {ops : Array Oper}
theorem ext_comp {ρ0 ρ ρ' : Map} {m0 mE mj mj' : Mem} {w0 w w' : World} (h : Ext ρ0 ρ m0 mE w0 w) (h' : Ext ρ ρ' mj mj' w w') (hids : ∀ b ∈ mj.bs,(∃ b0 ∈ m0.bs,b0.id = b.id) ∨ ρ0 b.id = none)
  (hlo : m0.nb ≤ mj.nb) (hhi : mj'.nb ≤ mE.nb) (hmid : mj.nb ≤ mj'.nb) (hold : ∀ b ∈ mj.bs,(∃ b0 ∈ m0.bs,b0.id = b.id) ∨ (m0.nb ≤ b.id ∧ b.id < mj.nb)) : Ext ρ0 ρ' m0 mE w0 w' := by
 have own1 : ∀ b1 ∈ mj.bs,∀ L,ρ b1.id = some L → ∀ x,L.own x → w0.heap.size ≤ x ∨ ∃ b ∈ m0.bs,∃ L0,ρ0 b.id = some L0 ∧ L0.own x := fun b1 hb1 L hL x hx=>by
  by_cases hr : ρ b1.id = ρ0 b1.id
  ·rw [hr] at hL
   rcases hids b1 hb1 with ⟨b0,hb0,e⟩ | h1
   ·exact .inr ⟨b0,hb0,L,by rw [e]; exact hL,hx⟩
   ·rw [h1] at hL; cases hL
  ·exact h.new _ L hL hr x hx
 refine ⟨h.le.trans h'.le,Nat.le_trans h.size h'.size,fun n hn hno=>?_,fun i=>?_,fun i L hi hL x hx=>?_,h.io.trans h'.io⟩
 ·rw [← h.keep n hn hno]
  refine h'.keep n (Nat.lt_of_lt_of_le hn h.size) fun b1 hb1 L hL hown=>?_
  rcases own1 b1 hb1 L hL n hown with hlt | ⟨b,hb,L0,h1,h2⟩
  ·omega
  ·exact hno b hb L0 h1 h2
 ·rcases h'.chg i with (h2 | ⟨h2,b1,hb1,e1⟩) | h2
  ·exact .inl (.inl (by omega))
  ·rcases hold b1 hb1 with ⟨b0,hb0,e⟩ | ⟨h3,h4⟩
   ·by_cases hi : i < m0.nb
    ·exact .inl (.inr ⟨hi,b0,hb0,e.trans e1⟩)
    ·exact .inl (.inl (by omega))
   ·exact .inl (.inl (by omega))
  ·rcases h.chg i with h1 | h1
   ·exact .inl h1
   ·exact .inr (h2.trans h1)
 ·by_cases hr : ρ' i = ρ i
  ·rw [hr] at hi hL
   exact h.new i L hi hL x hx
  ·rcases h'.new i L hi hr x hx with hlt | ⟨b1,hb1,L0,h1,h2⟩
   ·exact .inl (by have := h.size; omega)
   ·exact own1 b1 hb1 L0 h1 x h2
structure Mf (O : Objs) (ρ : Map) (E : Nat → Int) (μ : Nat → Option SB) (w : World) : Prop where
 id : ∀ i b,μ i = some b → b.id = i
 blk : ∀ i b,μ i = some b → allC E b.cs = true → Blk O ρ E b w
 disj : ∀ i j b c,μ i = some b → μ j = some c → allC E b.cs = true → allC E c.cs = true → i ≠ j → ∀ L L',ρ i = some L → ρ j = some L' → ∀ x,L.own x → ¬ L'.own x
 low : ∀ i b,μ i = some b → allC E b.cs = true → ∀ L,ρ i = some L → ∀ x,L.own x → x < w.heap.size
theorem Mf.list {μ : Nat → Option SB} (h : Mf O ρ E μ w) {l : List SB} (hl : ∀ b ∈ l,μ b.id = some b) : M O ρ E l w :=
 ⟨fun b hb hc=>h.blk _ b (hl b hb) hc,fun b hb b' hb' hc hc' hne=>h.disj _ _ b b' (hl b hb) (hl b' hb') hc hc' hne,fun b hb=>h.low _ b (hl b hb)⟩
theorem M.mf {l : List SB} (h : M O ρ E l w) : Mf O ρ E (fun i=>l.find? (·.id == i)) w := by
 have key : ∀ {i : Nat} {b : SB},l.find? (·.id == i) = some b → b ∈ l ∧ b.id = i := fun {i b} hb=>⟨List.mem_of_find?_eq_some hb,by simpa using List.find?_some hb⟩
 refine ⟨fun i b hb=>(key hb).2,fun i b hb hcb=>h.blk b (key hb).1 hcb,fun i j b c hb hc k1 k2 hne L L' hL hL'=>?_,fun i b hb k1 L hL=>?_⟩
 ·obtain ⟨b1,e1⟩ := key hb
  obtain ⟨c1,e2⟩ := key hc
  exact h.disj b b1 c c1 k1 k2 (by rw [e1,e2]; exact hne) L L' (by rw [e1]; exact hL) (by rw [e2]; exact hL')
 ·obtain ⟨b1,e1⟩ := key hb
  exact h.low b b1 k1 L (by rw [e1]; exact hL)
theorem Mf.step {μ μ' : Nat → Option SB} {fin fout : List SB} {lo hi : Nat} (h : Mf O ρ E μ w) (hfin : ∀ b ∈ fin,μ b.id = some b) (hfc : ∀ b ∈ fin,b.cs = []) (hM' : M O ρ1 E fout w1) (he : Ext ρ ρ1 ⟨fin,lo⟩ ⟨fout,hi⟩ w w1)
  (hids : ∀ b ∈ fout,(∃ b0 ∈ fin,b0.id = b.id) ∨ ρ b.id = none) (hfr : Fresh ρ lo hi) (hμ : ∀ i b,μ' i = some b → (b ∈ fout ∧ b.id = i) ∨ (μ i = some b ∧ ∀ c ∈ fin,c.id ≠ i)) : Mf O ρ1 E μ' w1 := by
 have same : ∀ i b,μ i = some b → allC E b.cs = true → (∀ d ∈ fin,d.id ≠ i) → ρ1 i = ρ i := fun i b hb hcb hnf=>by
  rcases he.chg i with (h1 | ⟨_,d,hd,e⟩) | h1
  ·obtain ⟨L',vs,h',_⟩ := h.blk i b hb hcb
   rw [h.id i b hb,hfr i h1.1 h1.2] at h'
   cases h'
  ·exact absurd e (hnf d hd)
  ·exact h1
 have fc : ∀ b ∈ fin,allC E b.cs = true := fun b hb=>by rw [hfc b hb]; rfl
 have own : ∀ b ∈ fout,allC E b.cs = true → ∀ L,ρ1 b.id = some L → ∀ j c,μ j = some c → allC E c.cs = true → (∀ d ∈ fin,d.id ≠ j) → ∀ K,ρ j = some K → ∀ x,L.own x → ¬ K.own x := fun b hb hcb L hL j c hc hcc hnf K hK x hx hx'=>by
  by_cases hs : ρ1 b.id = ρ b.id
  ·rcases hids b hb with ⟨b0,hb0,e⟩ | hn
   ·have hL0 : ρ b0.id = some L := by rw [e,← hs]; exact hL
    exact h.disj b0.id j b0 c (hfin b0 hb0) hc (fc b0 hb0) hcc (hnf b0 hb0) L K hL0 hK x hx hx'
   ·rw [hs,hn] at hL; cases hL
  ·rcases he.new b.id L hL hs x hx with hlt | ⟨b0,hb0,L0,h1,h2⟩
   ·have := h.low j c hc hcc K hK x hx'; omega
   ·exact h.disj b0.id j b0 c (hfin b0 hb0) hc (fc b0 hb0) hcc (hnf b0 hb0) L0 K h1 hK x h2 hx'
 refine ⟨fun i b hb=>?_,fun i b hb hcb=>?_,fun i j b c hb hc hcb hcc hne L L' hL hL' x hx hx'=>?_,fun i b hb hcb L hL x hx=>?_⟩
 ·rcases hμ i b hb with ⟨h1,h2⟩ | ⟨h1,h2⟩
  ·exact h2
  ·exact h.id i b h1
 ·rcases hμ i b hb with ⟨h1,h2⟩ | ⟨h1,h2⟩
  ·exact hM'.blk b h1 hcb
  ·have e := h.id i b h1
   have hblk := h.blk i b h1 hcb
   have hs := same i b h1 hcb h2
   refine (hblk.mono he.le (by rw [e]; exact hs)).keep he.size fun L hL x hx=>?_
   rw [e] at hL
   have hL0 : ρ i = some L := by rw [← hs]; exact hL
   refine he.keep x (h.low i b h1 hcb L hL0 x hx) fun b0 hb0 L0 h0 hx0=>?_
   exact h.disj b0.id i b0 b (hfin b0 hb0) h1 (fc b0 hb0) hcb (h2 b0 hb0) L0 L h0 hL0 x hx0 hx
 ·rcases hμ i b hb with ⟨h1,h2⟩ | ⟨h1,h2⟩ <;> rcases hμ j c hc with ⟨h3,h4⟩ | ⟨h3,h4⟩
  ·exact hM'.disj b h1 c h3 hcb hcc (by rw [h2,h4]; exact hne) L L' (by rw [h2]; exact hL) (by rw [h4]; exact hL') x hx hx'
  ·exact own b h1 hcb L (by rw [h2]; exact hL) j c h3 hcc h4 L' (by rw [← same j c h3 hcc h4]; exact hL') x hx hx'
  ·exact own c h3 hcc L' (by rw [h4]; exact hL') i b h1 hcb h2 L (by rw [← same i b h1 hcb h2]; exact hL) x hx' hx
  ·exact h.disj i j b c h1 h3 hcb hcc hne L L' (by rw [← same i b h1 hcb h2]; exact hL) (by rw [← same j c h3 hcc h4]; exact hL') x hx hx'
 ·rcases hμ i b hb with ⟨h1,h2⟩ | ⟨h1,h2⟩
  ·exact hM'.low b h1 hcb L (by rw [h2]; exact hL) x hx
  ·have := h.low i b h1 hcb L (by rw [← same i b h1 hcb h2]; exact hL) x hx
   have := he.size
   omega
def putAll (ts : List SV) : List Rec → List SV
 | []=>ts
 | r :: rs=>putT (putAll ts rs) r.o.dst r.v
theorem putAll_len (ts : List SV) : ∀ rs,(putAll ts rs).length = ts.length
 | []=>rfl
 | r :: rs=>by rw [putAll,putT_len,putAll_len ts rs]
theorem putAll_get (ts : List SV) (t : Nat) (x : SV) : ∀ rs : List Rec,(putAll ts rs)[t]? = some x ↔
  (match rs.find? (fun r=>decide (r.o.dst = some t)) with
  | some r=>t < ts.length ∧ r.v = x
  | none=>ts[t]? = some x)
 | []=>Iff.rfl
 | r :: rs=>by
  simp only [putAll,List.find?_cons]
  by_cases hd : r.o.dst = some t
  ·simp only [hd,decide_true]
   simp only [putT]
   constructor
   ·intro h
    have hlt : t < (putAll ts rs).length := by
     have := (List.getElem?_eq_some_iff.1 h).1
     simpa using this
    rw [List.getElem?_set_self hlt] at h
    rw [putAll_len] at hlt
    exact ⟨hlt,by simpa using h⟩
   ·rintro ⟨h1,h2⟩
    rw [List.getElem?_set_self (by rw [putAll_len]; exact h1),h2]
  ·simp only [hd,decide_false]
   rw [← putAll_get ts t x rs]
   unfold putT
   split
   ·rename_i d hd'
    have : d ≠ t := fun e=>hd (by rw [hd',e])
    rw [List.getElem?_set_ne this]
   ·rfl
theorem find_filter {α : Type} {p q : α → Bool} : ∀ {l : List α},(∀ x ∈ l,p x = true → q x = true) → (l.filter q).find? p = l.find? p
 | [],_=>rfl
 | x :: l,h=>by
  have ih := find_filter (p := p) (q := q) (l := l) fun y hy=>h y (List.mem_cons_of_mem _ hy)
  by_cases hp : p x = true
  ·have hq := h x (by simp) hp
   rw [List.filter_cons_of_pos hq,List.find?_cons_of_pos hp,List.find?_cons_of_pos hp]
  ·rw [List.find?_cons_of_neg hp,← ih]
   by_cases hq : q x = true
   ·rw [List.filter_cons_of_pos hq,List.find?_cons_of_neg hp]
   ·rw [List.filter_cons_of_neg hq]
theorem find_none {α : Type} {p : α → Bool} {l k : List α} (h : ∀ x ∈ l,p x = false) : (l ++ k).find? p = k.find? p := by
 rw [List.find?_append]
 have : l.find? p = none := List.find?_eq_none.2 fun x hx=>by rw [h x hx]; simp
 rw [this]; rfl
def muOf (m0 : List SB) (rs : List Rec) (i : Nat) : Option SB :=
 match rs.find? (fun r=>r.ids.contains i) with
 | some r=>r.fout.find? (·.id == i)
 | none=>m0.find? (·.id == i)
def Sets (r : Rec) (mem mem' : List SB) : Prop :=
 (∃ nw,r.fout = nw ++ r.fin ∧ r.ids = idsOf nw ∧ mem' = nw ++ mem) ∨ (r.ids = idsOf r.fin ++ idsOf r.fout ∧ mem' = applyB r.fin r.fout mem)
def Meet (T : Tys) (ops : Array Oper) (x r : Rec) : Prop := Oper.apart ops x.o r.o = true ∧ (∀ i ∈ x.ids,i ∉ r.ids) ∧ ((∀ i ∈ x.ids,i ∉ idsOf r.fin) ∨ pkOk T x r = true) ∧ ((∀ i ∈ r.ids,i ∉ idsOf x.fin) ∨ pkOk T r x = true)
def Chain (C : Cx) (call : CallF) (ops : Array Oper) (ts : List SV) (m0 : List SB) (pc : Ref) (nb0 : Nat) (g0 : Gl) : List Rec → List SB → Nat → Gl → Prop
 | [],mem,nb,g=>mem = m0 ∧ nb = nb0 ∧ g = g0
 | r :: rs,mem',nb',g'=>∃ mem g,Chain C call ops ts m0 pc nb0 g0 rs mem r.lo g ∧ nb' = r.hi ∧ ops[r.i]? = some r.o ∧ (∀ x ∈ rs,x.i < r.i) ∧
   (∀ x ∈ rs,Bef ops r.i x.i ∨ Meet C.T ops x r) ∧ r.fin.Sublist mem ∧ (∀ b ∈ r.fin,b.cs = []) ∧ Sets r mem mem' ∧ (∀ p,r.pk = some p → pkOf (evX C (putAll ts rs)) r.o = some p ∧ r.ids = [] ∧ r.fout = r.fin) ∧
   evOper C call ops (putAll ts rs) ⟨r.fin,r.lo⟩ pc g r.o = some (r.v,⟨r.fout,r.hi⟩,g')
variable {ts : List SV} {m0 : List SB} {pc : Ref} {nb0 : Nat} {g0 : Gl}
theorem mem_idsOf {l : List SB} {i : Nat} : i ∈ idsOf l ↔ ∃ b ∈ l,b.id = i := List.mem_map
theorem find_uniq {m : Mem} (h : WF m) {b : SB} (hb : b ∈ m.bs) : m.bs.find? (·.id == b.id) = some b := by
 cases hf : m.bs.find? (·.id == b.id) with
 | none=>exact absurd (List.find?_eq_none.1 hf b hb) (by simp)
 | some c =>
  have hc := List.mem_of_find?_eq_some hf
  have e : c.id = b.id := by simpa using List.find?_some hf
  rw [h.uniq hc hb e]
theorem applyB_ids {fin fout : List SB} : ∀ (mem : List SB),((mem.filterMap fun b=>if (idsOf fin).contains b.id then fout.find? (·.id == b.id) else some b).map (·.id)).Sublist (mem.map (·.id))
 | []=>by simp
 | b :: mem=>by
  have ih := applyB_ids (fin := fin) (fout := fout) mem
  by_cases hc : (idsOf fin).contains b.id = true
  ·cases hf : fout.find? (·.id == b.id) with
   | none =>
    rw [List.filterMap_cons_none (by rw [if_pos hc]; exact hf)]
    exact ih.cons _
   | some c =>
    rw [List.filterMap_cons_some (b := c) (by rw [if_pos hc]; exact hf)]
    have e : c.id = b.id := by simpa using List.find?_some hf
    simp only [List.map_cons,e]
    exact ih.cons_cons _
  ·rw [List.filterMap_cons_some (b := b) (by rw [if_neg hc])]
   simp only [List.map_cons]
   exact ih.cons_cons _
theorem applyB_mem {fin fout mem : List SB} {b : SB} (h : b ∈ applyB fin fout mem) : (b ∈ fout ∧ b.id ∉ idsOf fin) ∨ (b ∈ fout ∧ b.id ∈ idsOf fin ∧ ∃ b0 ∈ mem,b0.id = b.id ∧ fout.find? (·.id == b.id) = some b) ∨ (b ∈ mem ∧ b.id ∉ idsOf fin) := by
 rcases List.mem_append.1 h with h | h
 ·obtain ⟨h1,h2⟩ := List.mem_filter.1 h
  exact .inl ⟨h1,by simpa using h2⟩
 ·obtain ⟨b0,hb0,e⟩ := List.mem_filterMap.1 h
  by_cases hc : (idsOf fin).contains b0.id = true
  ·rw [if_pos hc] at e
   have e2 : b.id = b0.id := by simpa using List.find?_some e
   refine .inr (.inl ⟨List.mem_of_find?_eq_some e,by rw [e2]; simpa using hc,b0,hb0,e2.symm,by rw [e2]; exact e⟩)
  ·rw [if_neg hc] at e
   obtain rfl : b0 = b := by injection e
   exact .inr (.inr ⟨hb0,by simpa using hc⟩)
structure Kept (I : Nat → Int) (X : Nat → List Int → Int) (E : Nat → Int) (m0 : List SB) (nb0 : Nat) (g0 : Gl) (rs : List Rec) (mem : List SB) (nb : Nat) (g : Gl) : Prop where
 good : Good I X E g → Good I X E g0
 le : nb0 ≤ nb
 wf : WF ⟨mem,nb⟩
 recs : ∀ r ∈ rs,nb0 ≤ r.lo ∧ r.lo ≤ r.hi ∧ r.hi ≤ nb ∧ (∀ b ∈ r.fin,b.id < r.lo) ∧ (∀ b ∈ r.fin,(∃ b0 ∈ m0,b0.id = b.id) ∨ (nb0 ≤ b.id ∧ b.id < nb)) ∧ (∀ b ∈ r.fout,(∃ b0 ∈ r.fin,b0.id = b.id) ∨ (r.lo ≤ b.id ∧ b.id < r.hi)) ∧ WF ⟨r.fout,r.hi⟩
 ids : ∀ b ∈ mem,(∃ b0 ∈ m0,b0.id = b.id) ∨ (nb0 ≤ b.id ∧ b.id < nb)
 mu : ∀ i b,muOf m0 rs i = some b ↔ b ∈ mem ∧ b.id = i
theorem chain_kept (hcall : CallOk C O I X E call) (hW : WF ⟨m0,nb0⟩) : ∀ {rs : List Rec} {mem : List SB} {nb : Nat} {g : Gl},Chain C call ops ts m0 pc nb0 g0 rs mem nb g → Kept I X E m0 nb0 g0 rs mem nb g
 | [],mem,nb,g,h=>by
  obtain ⟨rfl,rfl,rfl⟩ := h
  refine ⟨fun H=>H,Nat.le_refl _,hW,fun r hr=>(by cases hr),fun b hb=>.inl ⟨b,hb,rfl⟩,fun i b=>⟨fun h=>?_,fun h=>?_⟩⟩
  ·exact ⟨List.mem_of_find?_eq_some h,by simpa using List.find?_some h⟩
  ·obtain ⟨h1,rfl⟩ := h
   exact find_uniq hW h1
 | r :: rs,mem',nb',g',h=>by
  obtain ⟨mem,g,hc,rfl,ho,hlt,hap,hsub,_,hsets,_,he⟩ := h
  have K := chain_kept hcall hW hc
  obtain ⟨q1,_⟩ := evOper_ok (O := O) (I := I) (X := X) (E := E) hcall he
  have hWf : WF ⟨r.fin,r.lo⟩ := wf_ids K.wf (hsub.map _) (Nat.le_refl _)
  have q1 := q1 hWf
  have hWo := q1.wf hWf
  have hnb := q1.nb
  simp only at hnb
  have hlo := K.le
  have hfm : ∀ b ∈ r.fin,b ∈ mem := fun b hb=>hsub.subset hb
  have hmlo : ∀ b ∈ mem,b.id < r.lo := fun b hb=>K.wf.2 b hb
  have hids : ∀ b ∈ mem',(∃ b0 ∈ mem,b0.id = b.id) ∨ (r.lo ≤ b.id ∧ b.id < r.hi) := fun b hb=>by
   rcases hsets with ⟨nw,e1,e2,rfl⟩ | ⟨e1,rfl⟩
   ·rcases List.mem_append.1 hb with hb | hb
    ·rcases q1.ids b (by rw [e1]; exact List.mem_append_left _ hb) with ⟨b0,hb0,e⟩ | h
     ·exact .inl ⟨b0,hfm b0 hb0,e⟩
     ·exact .inr h
    ·exact .inl ⟨b,hb,rfl⟩
   ·rcases applyB_mem hb with ⟨h1,_⟩ | ⟨h1,_⟩ | ⟨h1,_⟩
    ·rcases q1.ids b h1 with ⟨b0,hb0,e⟩ | h
     ·exact .inl ⟨b0,hfm b0 hb0,e⟩
     ·exact .inr h
    ·rcases q1.ids b h1 with ⟨b0,hb0,e⟩ | h
     ·exact .inl ⟨b0,hfm b0 hb0,e⟩
     ·exact .inr h
    ·exact .inl ⟨b,h1,rfl⟩
  have hnew : ∀ nw,r.fout = nw ++ r.fin → ∀ b ∈ nw,r.lo ≤ b.id ∧ b.id < r.hi := fun nw e1 b hb=>by
   rcases q1.ids b (by rw [e1]; exact List.mem_append_left _ hb) with ⟨b0,hb0,e⟩ | h
   ·rw [e1] at hWo
    have := (List.pairwise_append.1 hWo.1).2.2 b hb b0 hb0
    omega
   ·exact h
  have hwf' : WF ⟨mem',r.hi⟩ := by
   rcases hsets with ⟨nw,e1,e2,rfl⟩ | ⟨e1,rfl⟩
   ·rw [e1] at hWo
    refine ⟨List.pairwise_append.2 ⟨(List.pairwise_append.1 hWo.1).1,K.wf.1,fun b hb b' hb'=>?_⟩,fun b hb=>?_⟩
    ·have := (hnew nw e1 b hb).1; have := hmlo b' hb'; omega
    ·rcases List.mem_append.1 hb with hb | hb
     ·exact (hnew nw e1 b hb).2
     ·have := hmlo b hb; simp only; omega
   ·have hnews : ∀ b ∈ r.fout.filter (fun b=>!(idsOf r.fin).contains b.id),r.lo ≤ b.id ∧ b.id < r.hi := fun b hb=>by
     obtain ⟨h1,h2⟩ := List.mem_filter.1 hb
     rcases q1.ids b h1 with ⟨b0,hb0,e⟩ | h
     ·exfalso
      have : b.id ∈ idsOf r.fin := mem_idsOf.2 ⟨b0,hb0,e⟩
      simp [this] at h2
     ·exact h
    have hm2 : WF ⟨mem.filterMap (fun b=>if (idsOf r.fin).contains b.id then r.fout.find? (·.id == b.id) else some b),r.lo⟩ := wf_ids K.wf (applyB_ids mem) (Nat.le_refl _)
    refine ⟨List.pairwise_append.2 ⟨hWo.1.sublist List.filter_sublist,hm2.1,fun b hb b' hb'=>?_⟩,fun b hb=>?_⟩
    ·have := (hnews b hb).1; have := hm2.2 b' hb'; simp only at this; omega
    ·rcases List.mem_append.1 hb with hb | hb
     ·exact (hnews b hb).2
     ·have := hm2.2 b hb; simp only at this ⊢; omega
  refine ⟨fun H=>K.good (q1.good H),by omega,hwf',fun x hx=>?_,fun b hb=>?_,fun i b=>?_⟩
  ·rcases List.mem_cons.1 hx with rfl | hx
   ·exact ⟨hlo,hnb,Nat.le_refl _,fun b hb=>hmlo b (hfm b hb),fun b hb=>by
     rcases K.ids b (hfm b hb) with h | h
     ·exact .inl h
     ·exact .inr (by omega),q1.ids,hWo⟩
   ·obtain ⟨a1,a2,a3,a4,a5,a6,a7⟩ := K.recs x hx
    exact ⟨a1,a2,by omega,a4,fun b hb=>by
     rcases a5 b hb with h | h
     ·exact .inl h
     ·exact .inr (by omega),a6,a7⟩
  ·rcases hids b hb with ⟨b0,hb0,e⟩ | h
   ·rcases K.ids b0 hb0 with ⟨b1,hb1,e1⟩ | h
    ·exact .inl ⟨b1,hb1,e1.trans e⟩
    ·exact .inr (by omega)
   ·exact .inr (by omega)
  ·unfold muOf
   by_cases hi : r.ids.contains i = true
   ·have e0 : (r :: rs).find? (fun r=>r.ids.contains i) = some r := List.find?_cons_of_pos (p := fun r : Rec=>r.ids.contains i) hi
    rw [e0]
    simp only
    have hi' : i ∈ r.ids := by simpa using hi
    rcases hsets with ⟨nw,e1,e2,rfl⟩ | ⟨e1,rfl⟩
    ·rw [e2] at hi'
     obtain ⟨b1,hb1,e3⟩ := mem_idsOf.1 hi'
     constructor
     ·intro hf
      have e4 : b.id = i := by simpa using List.find?_some hf
      have hb := List.mem_of_find?_eq_some hf
      have : b = b1 := hWo.uniq hb (by rw [e1]; exact List.mem_append_left _ hb1) (by rw [e4,e3])
      rw [this]
      exact ⟨List.mem_append_left _ hb1,e3⟩
     ·rintro ⟨hb,e4⟩
      have : b = b1 := hwf'.uniq hb (List.mem_append_left _ hb1) (by rw [e4,e3])
      rw [this,← e3]
      exact find_uniq hWo (by simp only; rw [e1]; exact List.mem_append_left _ hb1)
    ·rw [e1] at hi'
     constructor
     ·intro hf
      have e4 : b.id = i := by simpa using List.find?_some hf
      have hb := List.mem_of_find?_eq_some hf
      refine ⟨?_,e4⟩
      by_cases hfi : i ∈ idsOf r.fin
      ·obtain ⟨b0,hb0,e5⟩ := mem_idsOf.1 hfi
       refine List.mem_append_right _ (List.mem_filterMap.2 ⟨b0,hfm b0 hb0,?_⟩)
       rw [if_pos (by rw [e5]; simpa using hfi),e5]
       exact hf
      ·exact List.mem_append_left _ (List.mem_filter.2 ⟨hb,by rw [e4]; simpa using hfi⟩)
     ·rintro ⟨hb,e4⟩
      rcases applyB_mem hb with ⟨h1,_⟩ | ⟨h1,_,b0,_,_,h2⟩ | ⟨h1,h2⟩
      ·rw [← e4]; exact find_uniq hWo h1
      ·rw [← e4]; exact h2
      ·exfalso
       rw [e4] at h2
       rcases List.mem_append.1 hi' with h3 | h3
       ·exact h2 h3
       ·obtain ⟨b1,hb1,e5⟩ := mem_idsOf.1 h3
        rcases q1.ids b1 hb1 with ⟨b0,hb0,e6⟩ | h4
        ·exact h2 (mem_idsOf.2 ⟨b0,hb0,by rw [e6,e5]⟩)
        ·simp only at h4; have := hmlo b h1; omega
   ·have e0 : (r :: rs).find? (fun r=>r.ids.contains i) = rs.find? (fun r=>r.ids.contains i) := List.find?_cons_of_neg (p := fun r : Rec=>r.ids.contains i) hi
    rw [e0]
    have hi' : i ∉ r.ids := by simpa using hi
    have hmu := K.mu i b
    unfold muOf at hmu
    rw [hmu]
    rcases hsets with ⟨nw,e1,e2,rfl⟩ | ⟨e1,rfl⟩
    ·rw [e2] at hi'
     constructor
     ·rintro ⟨h1,h2⟩
      exact ⟨List.mem_append_right _ h1,h2⟩
     ·rintro ⟨h1,h2⟩
      rcases List.mem_append.1 h1 with h1 | h1
      ·exact absurd (mem_idsOf.2 ⟨b,h1,h2⟩) hi'
      ·exact ⟨h1,h2⟩
    ·rw [e1] at hi'
     have hf1 : i ∉ idsOf r.fin := fun h=>hi' (List.mem_append_left _ h)
     have hf2 : i ∉ idsOf r.fout := fun h=>hi' (List.mem_append_right _ h)
     constructor
     ·rintro ⟨h1,h2⟩
      refine ⟨List.mem_append_right _ (List.mem_filterMap.2 ⟨b,h1,?_⟩),h2⟩
      rw [if_neg (by rw [h2]; simpa using hf1)]
     ·rintro ⟨h1,h2⟩
      rcases applyB_mem h1 with ⟨h3,_⟩ | ⟨h3,_⟩ | ⟨h3,_⟩
      ·exact absurd (mem_idsOf.2 ⟨b,h3,h2⟩) hf2
      ·exact absurd (mem_idsOf.2 ⟨b,h3,h2⟩) hf2
      ·exact ⟨h3,h2⟩
omit [TyOk C.P C.T] in
theorem chain_split (rs : List Rec) : ∀ {mem : List SB} {nb : Nat} {g : Gl},Chain C call ops ts m0 pc nb0 g0 rs mem nb g → ∀ {r : Rec},r ∈ rs → ∃ (pre rest : List Rec),rs = pre ++ r :: rest ∧
  (∀ y ∈ pre,r.i < y.i ∧ (Bef ops y.i r.i ∨ Meet C.T ops r y)) := by
 induction rs with
 | nil=>intro mem nb g h r hr; cases hr
 | cons x rs ih =>
  intro mem nb g h r hr
  obtain ⟨mem1,g1,hc,_,ho,hlt,hap,_⟩ := h
  by_cases hx : r = x
  ·subst hx
   exact ⟨[],rs,rfl,fun y hy=>by cases hy⟩
  ·have hr' : r ∈ rs := by
    rcases List.mem_cons.1 hr with e | e
    ·exact absurd e hx
    ·exact e
   obtain ⟨pre,rest,e,hp⟩ := ih hc hr'
   refine ⟨x :: pre,rest,by rw [e]; rfl,fun y hy=>?_⟩
   rcases List.mem_cons.1 hy with e1 | hy
   ·rw [e1]; exact ⟨hlt r hr',hap r hr'⟩
   ·exact hp y hy
theorem chain_good (hcall : CallOk C O I X E call) (hW : WF ⟨m0,nb0⟩) (rs : List Rec) : ∀ {mem : List SB} {nb : Nat} {g : Gl},Chain C call ops ts m0 pc nb0 g0 rs mem nb g → Good I X E g → ∀ {pre rest : List Rec} {r : Rec},rs = pre ++ r :: rest → ∃ mem1 g1,Good I X E g1 ∧ Chain C call ops ts m0 pc nb0 g0 (r :: rest) mem1 r.hi g1 := by
 induction rs with
 | nil=>intro mem nb g h H pre rest r e; simp at e
 | cons x rs ih =>
  intro mem nb g h H pre rest r e
  cases pre with
  | nil =>
   simp only [List.nil_append,List.cons.injEq] at e
   obtain ⟨e1,e2⟩ := e
   rw [← e1,← e2]
   have hnb : nb = x.hi := by obtain ⟨_,_,_,e,_⟩ := h; exact e
   rw [← hnb]
   exact ⟨mem,g,H,h⟩
  | cons y pre =>
   simp only [List.cons_append,List.cons.injEq] at e
   obtain ⟨mem1,g1,hc,_,ho,hlt,hap,hsub,_,hsets,_,he⟩ := h
   obtain ⟨q1,_⟩ := evOper_ok (O := O) (I := I) (X := X) (E := E) hcall he
   have K := chain_kept (O := O) (I := I) (X := X) (E := E) hcall hW hc
   exact ih hc ((q1 (wf_ids K.wf (hsub.map _) (Nat.le_refl _))).good H) e.2
end
end Go.Proofs.YtbegodiligmphaaGreatDoor.Sy
