/- Part of the proof of BusProof. The parameter store's contracts hold. -/
import Derived.Test.YtbegodiligmphaaGreatDoorQb14
import Derived.Test.YtbegodiligmphaaGreatDoorQb15
namespace Go.Proofs.YtbegodiligmphaaGreatDoor.Sy
open Go
def ObjIn : Objs where
 rel k vs L w := if k = 3 then relE vs L w else if k = 4 then FlRel vs L w else False
 keep := fun {k vs L w w'} h hs hk=>by
  by_cases h3 : k = 3
  ·simp only [h3,if_true] at h ⊢
   exact relE_keep h hs hk
  ·by_cases h4 : k = 4
   ·subst h4
    simp only [if_neg h3,if_true] at h ⊢
    exact h.keep hs hk
   ·simp only [if_neg h3,if_neg h4] at h
def ObjD : Objs where
 rel k vs L w := if k = 1 then PackRel ObjIn sh vs L w else if k = 3 then relE vs L w else if k = 4 then FlRel vs L w else False
 keep := fun {k vs L w w'} h hs hk=>by
  by_cases h1 : k = 1
  ·subst h1
   simp only [if_true] at h ⊢
   exact h.keep hs hk
  ·by_cases h3 : k = 3
   ·simp only [h3,if_true] at h ⊢
    exact relE_keep h hs hk
   ·by_cases h4 : k = 4
    ·subst h4
     simp only [if_neg h1,if_neg h3,if_true] at h ⊢
     exact h.keep hs hk
    ·simp only [if_neg h1,if_neg h3,if_neg h4] at h
theorem min3 (c : Nat) : sh (min c 3) = sh c := by unfold sh; congr 1; omega
theorem objIn4 : ∀ vs L w,ObjIn.rel 4 vs L w ↔ FlRel vs L w := fun _ _ _=>Iff.rfl
theorem packD : PackOk (mkCx st4) ObjD ObjIn sh tabs3 [0,1,2] where
 mix := cx_mix
 name := cx_name
 ctr := st4_ok objIn4
 rel := fun _ _ _=>Iff.rfl
 shp := sh_ok
 top := sh_top
 no := by decide
 tab := by decide +kernel
 ids := by decide
 desc := by decide
 glob := fun gl' id h=>by
  have h1 := mkCx_glob st4 gl' id h
  have h2 := mkCx_gl st4 gl' id h
  exact ⟨h1,h2⟩
theorem le3 {c : Nat} : min c 3 ∈ List.range' 0 4 := by simp; omega
theorem all_ok {f na : Nat} {o : SV} {ws : Nat → List Wy} (h : (List.range' 0 4).all (fun c=>(ws c).all fun W=>W.ok (mkCx st4) 20 6000 f sh c na o tabs3) = true) : ∀ c,∀ W ∈ ws (min c 3),W.ok (mkCx st4) 20 6000 f sh c na o tabs3 = true := fun c W hW=>by
 have h1 := List.all_eq_true.1 (List.all_eq_true.1 h (min c 3) le3) W hW
 unfold Wy.ok at h1 ⊢
 rw [min3] at h1
 exact h1
theorem only_fits {f c d : Nat} {ys zs : List Int} (hd : InDom (sh c).dom (ofL ys)) (hz : zs.length = 0) : ∃ W ∈ only (min c 3) d,W.fits (mkCx st4) 20 6000 f ys zs := by
 obtain rfl := List.eq_nil_of_length_eq_zero hz
 refine ⟨_,List.mem_singleton.2 rfl,fun p hp=>(by cases hp),fun p hp=>?_,rfl,rfl⟩
 rw [List.append_nil]
 refine hd p ?_
 simp only [base,List.append_nil,min3] at hp
 exact hp
theorem ent_sup {C : Cx} {B B' : MLit} {d fuel : Nat} {f : FuncId} (ha : B'.args = B.args) (hm : B'.mem = B.mem) (hn : B'.nt = B.nt) (hk : B'.k = B.k) (h1 : B.fx = []) (h2 : B.mg = []) (h3 : B.mo = []) (h1' : B'.fx = []) (h2' : B'.mg = []) (h3' : B'.mo = []) : B'.ent C d fuel f = B.ent C d fuel f := by
 have h : ∀ L : MLit,L.fx = [] → L.mg = [] → L.mo = [] → ∀ xs i,L.ent C d fuel f xs i = runF (evFn C d fuel f L.args ⟨L.mem,L.nt⟩ (.c 1) (inps L.k)) i xs := fun L e1 e2 e3 xs i=>by
  unfold MLit.ent MLit.ev
  rw [e1,e2,e3]
  cases evFn C d fuel f L.args ⟨L.mem,L.nt⟩ (.c 1) (inps L.k) with
  | none=>rfl
  | some r =>
   simp only
   rcases hs : suppose L.sup r with ⟨v,m,g⟩
   have hg : g = r.2.2 := by
    have := suppose_g (sup := L.sup) (r := r)
    rw [hs] at this
    exact this
   subst hg
   rfl
 funext xs i
 rw [h B' h1' h2' h3',h B h1 h2 h3,ha,hm,hn,hk]
theorem allC1 {E : Nat → Int} {i : Nat} {y : Bool} (h : truth (E i) = y) : allC E [(.e i,y)] = true := by simp [allC,Ref.val,h]
theorem allC2 {E : Nat → Int} {i j : Nat} {y z : Bool} (h : truth (E i) = y) (h' : truth (E j) = z) : allC E [(.e i,y),(.e j,z)] = true := by simp [allC,Ref.val,h,h']
theorem fits_base {c d : Nat} {f : FuncId} {kn : List (Nat × Int)} {ys : List Int} {sp : List (Ref × Bool)} {o : Int} (hkn : ∀ p ∈ kn,ofL ys p.1 = p.2) (hd : InDom (sh c).dom (ofL ys)) {E : Nat → Int} (hE : (base c [] 0 [] [] kn).ent (mkCx st4) 20 6000 f ys = E) (hs : allC E sp = true) :
  (⟨base c [] 0 [] sp kn,[],d,kn,o⟩ : Wy).fits (mkCx st4) 20 6000 f ys [] := by
 have e := congrFun (ent_sup (C := mkCx st4) (d := 20) (fuel := 6000) (f := f) (B := base c [] 0 [] [] kn) (B' := base c [] 0 [] sp kn) rfl rfl rfl rfl rfl rfl rfl rfl rfl rfl) ys
 rw [hE] at e
 refine ⟨hkn,?_,?_,rfl⟩
 ·rw [List.append_nil]; show InDom ((sh c).dom ++ []) _; rw [List.append_nil]; exact hd
 ·rw [List.append_nil]
  exact (congrArg (fun E=>allC E sp = true) e).mpr hs
theorem hargs_of {c : Nat} {ar : List Ref} {na : Nat} {dom : List (Nat × Int × Int)} {sp : List (Ref × Bool)} {kn : List (Nat × Int)} {d : Nat} {o : Int} (hk : ∀ p ∈ kn,p.1 < (sh c).k) :
  let W : Wy := ⟨base (min c 3) ar na dom sp kn,ar,d,kn,o⟩
  W.B.args = .a (.one (.ptr 19 0)) :: W.ar.map (fun r=>.a (.one (.int .i64 r))) ∧ W.B.mem = (sh c).mem.map (litB W.kn) ++ tabs3 ∧ ∀ p ∈ W.kn,p.1 < (sh c).k := by
 refine ⟨rfl,?_,hk⟩
 show (sh (min c 3)).mem.map (litB kn) ++ tabs3 = _
 rw [min3]
theorem dom_lt (c : Nat) : ∀ p ∈ (sh c).dom,p.1 < (sh c).k := by
 have h : ∀ c,c < 4 → ∀ p ∈ (mkSh c).dom,p.1 < (mkSh c).k := by decide +kernel
 exact h _ (by omega)
theorem brokenS_ok : ∀ l I X E,CtrOk (mkCx l) ObjD I X E 161 brokenS.ctr := fun l I X E=>by
 refine packS_ok packD (ws := brokenW) (fun c W hW=>?_) (all_ok (ws := brokenW') broken_0) (fun c ys zs hl hd hz _=>?_) ⟨_,List.mem_singleton.2 rfl⟩ (fun p hp=>by cases hp) I X E
 ·obtain rfl := List.mem_singleton.1 hW
  exact hargs_of fun p hp=>(by cases hp)
 ·obtain rfl := List.eq_nil_of_length_eq_zero hz
  refine ⟨_,List.mem_singleton.2 rfl,fun p hp=>(by cases hp),fun p hp=>?_,rfl,rfl⟩
  rw [List.append_nil]
  refine hd p ?_
  simp only [base,List.append_nil,min3] at hp
  exact hp
theorem stepS_ok : ∀ l I X E,CtrOk (mkCx l) ObjD I X E 103 stepS.ctr := fun l I X E=>by
 refine packS_ok packD (ws := stepW) (fun c W hW=>?_) (all_ok (ws := stepW') step_0) (fun c ys zs hl hd hz _=>?_) ⟨_,List.mem_singleton.2 rfl⟩ (fun p hp=>by cases hp) I X E
 ·unfold stepW stepW' at hW
  split at hW
  ·rcases List.mem_cons.1 hW with rfl | hW
   ·exact hargs_of fun p hp=>(by cases hp)
   ·obtain rfl := List.mem_singleton.1 hW
    exact hargs_of fun p hp=>(by cases hp)
  ·obtain rfl := List.mem_singleton.1 hW
   exact hargs_of fun p hp=>(by cases hp)
 ·unfold stepW stepW'
  split
  ·have hd' : InDom (sh (min c 3)).dom (ofL ys) := by rw [min3]; exact hd
   obtain rfl := List.eq_nil_of_length_eq_zero hz
   obtain ⟨E,hE⟩ : ∃ E,(base (min c 3) [] 0 [] [] []).ent (mkCx st4) 20 6000 103 ys = E := ⟨_,rfl⟩
   cases ht : truth (E 223) with
   | true=>exact ⟨_,List.mem_cons_self,fits_base (fun p hp=>by cases hp) hd' hE (allC1 ht)⟩
   | false=>exact ⟨_,List.mem_cons_of_mem _ (List.mem_singleton.2 rfl),fits_base (fun p hp=>by cases hp) hd' hE (allC1 ht)⟩
  ·exact only_fits hd hz
theorem begin_ok (c : Nat) : ∀ W ∈ beginW' (min c 3),W.ok (mkCx st4) 20 6000 152 sh c 0 jk tabs3 = true := fun W hW=>by
 have hc : sh (min c 3) = sh c := min3 c
 have key : W.ok (mkCx st4) 20 6000 152 sh (min c 3) 0 jk tabs3 = true := by
  by_cases h0 : min c 3 = 0
  ·rw [h0] at hW ⊢
   unfold beginW' at hW
   rw [if_pos rfl] at hW
   obtain ⟨s,hs,hW⟩ := List.mem_flatMap.1 hW
   have hs9 : s < 9 := List.mem_range.1 hs
   have hall : ∀ s,s < 9 → (begW 0 s).all (fun W=>W.ok (mkCx st4) 20 6000 152 sh 0 0 jk tabs3) = true := fun s hs=>by
    match s,hs with
    | 0,_=>exact begin0_0
    | 1,_=>exact begin0_1
    | 2,_=>exact begin0_2
    | 3,_=>exact begin0_3
    | 4,_=>exact begin0_4
    | 5,_=>exact begin0_5
    | 6,_=>exact begin0_6
    | 7,_=>exact begin0_7
    | 8,_=>exact begin0_8
   exact List.all_eq_true.1 (hall s hs9) W hW
  ·have hm : min c 3 ∈ List.range' 1 3 := by simp; omega
   exact List.all_eq_true.1 (List.all_eq_true.1 begin_1 (min c 3) hm) W hW
 unfold Wy.ok at key ⊢
 rw [hc] at key
 exact key
theorem beginS_ok : ∀ l I X E,CtrOk (mkCx l) ObjD I X E 152 beginS.ctr := fun l I X E=>by
 refine packS_ok packD (ws := beginW) (fun c W hW=>?_) (fun c=>begin_ok c) (fun c ys zs hl hd hz _=>?_) ⟨_,List.mem_flatMap.2 ⟨0,by simp,List.mem_cons_self⟩⟩ (fun p hp=>by cases hp) I X E
 ·unfold beginW beginW' at hW
  split at hW
  ·rename_i h0
   obtain ⟨s,_,hW⟩ := List.mem_flatMap.1 hW
   have hk : ∀ p ∈ [((10 : Nat),(s : Int) - 1)],p.1 < (sh c).k := fun p hp=>by
    obtain rfl := List.mem_singleton.1 hp
    rw [← min3,h0]; show (10 : Nat) < (sh 0).k; decide
   unfold begW at hW
   rcases List.mem_cons.1 hW with rfl | hW
   ·exact hargs_of hk
   ·rcases List.mem_cons.1 hW with rfl | hW
    ·exact hargs_of hk
    ·obtain rfl := List.mem_singleton.1 hW
     exact hargs_of hk
  ·obtain rfl := List.mem_singleton.1 hW
   exact hargs_of fun p hp=>(by cases hp)
 ·unfold beginW beginW'
  split
  ·rename_i h0
   have hd' : InDom (sh (min c 3)).dom (ofL ys) := by rw [min3]; exact hd
   have hs : (-1 : Int) ≤ ofL ys 10 ∧ ofL ys 10 ≤ 7 := hd' (10,-1,7) (by rw [h0]; decide)
   obtain ⟨s,hs9,hsv⟩ : ∃ s : Nat,s < 9 ∧ ofL ys 10 = (s : Int) - 1 := ⟨(ofL ys 10 + 1).toNat,by omega,by omega⟩
   have hkn : ∀ p ∈ [((10 : Nat),(s : Int) - 1)],ofL ys p.1 = p.2 := fun p hp=>by
    obtain rfl := List.mem_singleton.1 hp
    exact hsv
   have hin : ∀ W ∈ begW (min c 3) s,W ∈ (List.range 9).flatMap (begW (min c 3)) := fun W hW=>List.mem_flatMap.2 ⟨s,List.mem_range.2 hs9,hW⟩
   obtain rfl := List.eq_nil_of_length_eq_zero hz
   obtain ⟨E,hE⟩ : ∃ E,(base (min c 3) [] 0 [] [] [(10,(s : Int) - 1)]).ent (mkCx st4) 20 6000 152 ys = E := ⟨_,rfl⟩
   cases ht : truth (E (begB s)) with
   | false=>exact ⟨_,hin _ (List.mem_cons_of_mem _ (List.mem_cons_of_mem _ (List.mem_singleton.2 rfl))),fits_base hkn hd' hE (allC1 ht)⟩
   | true =>
    cases hte : truth (E (begE s)) with
    | false=>exact ⟨_,hin _ List.mem_cons_self,fits_base hkn hd' hE (allC2 ht hte)⟩
    | true=>exact ⟨_,hin _ (List.mem_cons_of_mem _ List.mem_cons_self),fits_base hkn hd' hE (allC2 ht hte)⟩
  ·exact only_fits hd hz
theorem setS_ok : ∀ l I X E,CtrOk (mkCx l) ObjD I X E 151 setS.ctr := fun l I X E=>by
 refine packS_ok packD (ws := setW) (fun c W hW=>?_) (all_ok (ws := setW') set_0) (fun c ys zs hl hd hz hdz=>?_) ⟨_,List.mem_map.2 ⟨0,by simp,rfl⟩⟩ (fun p hp=>?_) I X E
 ·unfold setW setW' at hW
  obtain ⟨i,_,rfl⟩ := List.mem_map.1 hW
  exact hargs_of fun p hp=>(by cases hp)
 ·match zs,hz with
  | [z0,z1],_ =>
   have h0 : (0 : Int) ≤ z0 ∧ z0 ≤ 3 := hdz (0,0,3) (by simp [setD])
   have h1 : (-9223372036854775808 : Int) ≤ z1 ∧ z1 ≤ 9223372036854775807 := hdz (1,-9223372036854775808,9223372036854775807) (by simp [setD])
   obtain ⟨i,hi,rfl⟩ : ∃ i : Nat,i < 4 ∧ z0 = i := ⟨z0.toNat,by omega,by omega⟩
   have hk : (sh (min c 3)).k = ys.length := by rw [min3]; exact hl.symm
   have e0 : ofL (ys ++ [(i : Int),z1]) (sh (min c 3)).k = i := by
    unfold ofL
    rw [hk,List.getD_eq_getElem?_getD,List.getElem?_append_right (Nat.le_refl _),Nat.sub_self]; rfl
   have e1 : ofL (ys ++ [(i : Int),z1]) ((sh (min c 3)).k + 1) = z1 := by
    unfold ofL
    rw [hk,List.getD_eq_getElem?_getD,List.getElem?_append_right (by omega),show ys.length + 1 - ys.length = 1 by omega]; rfl
   refine ⟨_,List.mem_map.2 ⟨i,List.mem_range.2 hi,rfl⟩,fun p hp=>(by cases hp),fun p hp=>?_,rfl,?_⟩
   ·have hp : p ∈ (sh (min c 3)).dom ++ [((sh (min c 3)).k,(i : Int),(i : Int)),((sh (min c 3)).k + 1,-9223372036854775808,9223372036854775807)] := hp
    rcases List.mem_append.1 hp with hp | hp
    ·rw [min3] at hp
     have hlt := dom_lt c p hp
     have h2 := hd p hp
     have e2 : ofL (ys ++ [(i : Int),z1]) p.1 = ofL ys p.1 := by
      unfold ofL
      rw [List.getD_eq_getElem?_getD,List.getD_eq_getElem?_getD,List.getElem?_append_left (by omega)]
     rw [e2]; exact h2
    ·rcases List.mem_cons.1 hp with rfl | hp
     ·simp only [e0]; omega
     ·obtain rfl := List.mem_singleton.1 hp
      simp only [e1]; omega
   ·show [(i : Int),ofL (ys ++ [(i : Int),z1]) ((sh (min c 3)).k + 1)] = _
    rw [e1]
 ·simp only [setD,List.mem_cons,List.not_mem_nil,or_false] at hp
  rcases hp with rfl | rfl <;> simp
theorem savedS_ok : ∀ l I X E,CtrOk (mkCx l) ObjD I X E 112 savedS.ctr := fun l I X E=>by
 refine copyS_ok packD (bs := fun c=>savedB (min c 3)) (d := 20) (fuel := 6000) (fun c=>⟨rfl,?_,rfl,?_,?_,rfl⟩) (fun c=>?_) (fun c j h1 h4=>?_) I X E
 ·show (sh (min c 3)).mem.map (litB []) ++ tabs3 = _
  rw [min3]
 ·show (sh (min c 3)).k + 0 = _
  rw [min3,Nat.add_zero]
 ·show (sh (min c 3)).dom ++ [] = _
  rw [min3,List.append_nil]
 ·have := List.all_eq_true.1 saved_0 (min c 3) (List.mem_range.2 (by omega))
  rw [min3] at this
  exact this
 ·rw [← min3]
  have h : ∀ c,c < 4 → ∀ j,j < 4 → j + 1 ≤ (sh c).k ∧ (j,(0 : Int),hiP j) ∈ (sh c).dom := by decide
  obtain ⟨i,rfl⟩ : ∃ i,j = i + 1 := ⟨j - 1,by omega⟩
  have h5 := h (min c 3) (by omega) i (by omega)
  have h4' : i < 4 := by omega
  refine ⟨h5.1,?_⟩
  match i,h4' with
  | 0,_=>exact h5.2
  | 1,_=>exact h5.2
  | 2,_=>exact h5.2
  | 3,_=>exact h5.2
end Go.Proofs.YtbegodiligmphaaGreatDoor.Sy
