/- Part of the proof of BusProof. MADE BY PROGRAM (genmeth.py): the contracts of the drive's methods hold. A tick of the drive, told of numbers: the drive stands in the world as a list of numbers. A fresh drive: its contracts hold; it stands in the world as numbers. The drive as one thing in the world: where it stands, what it owns, its numbers; a tick of it. Config and fresh at Go's level: a configuration stands in the world; a drive is made of it. Config at Go's level: the configuration stands in the world. View and Faults of a drive at Go's level. The contracts dv33, dv31 were written by program. MADE BY PROGRAM (gen_bus.py): ticks of DriveBus: contracts where the frame is known. MADE BY PROGRAM (gen_awxt.py): Awake returns true. Awake returns true. -/
import Derived.Test.YtbegodiligmphaaGreatDoorQb06
import Derived.Test.YtbegodiligmphaaGreatDoorQb14
import Derived.Test.YtbegodiligmphaaGreatDoorQb16
import Derived.Test.YtbegodiligmphaaGreatDoorQb17
import Derived.Test.YtbegodiligmphaaGreatDoorQb18
import Derived.Test.YtbegodiligmphaaGreatDoorQb19
import Derived.Test.YtbegodiligmphaaGreatDoorQb20
import Derived.Test.YtbegodiligmphaaGreatDoorQb21
import Derived.Test.YtbegodiligmphaaGreatDoorQb22
import Derived.Test.YtbegodiligmphaaGreatDoorQb23
import Derived.Test.YtbegodiligmphaaGreatDoorQb24
import Derived.Test.YtbegodiligmphaaGreatDoorQb25
import Derived.Test.YtbegodiligmphaaGreatDoorQb26
import Derived.Test.YtbegodiligmphaaGreatDoorQb27
import Derived.Test.YtbegodiligmphaaGreatDoorQb28
import Derived.Test.YtbegodiligmphaaGreatDoorQb29
import Derived.Test.YtbegodiligmphaaGreatDoorQb30
import Derived.Test.YtbegodiligmphaaGreatDoorQb31
import Derived.Test.YtbegodiligmphaaGreatDoorQb32
import Derived.Test.YtbegodiligmphaaGreatDoorQb33
import Derived.Test.YtbegodiligmphaaGreatDoorQb34
import Derived.Test.YtbegodiligmphaaGreatDoorQb35
import Derived.Test.YtbegodiligmphaaGreatDoorQb36
namespace Go.Proofs.YtbegodiligmphaaGreatDoor.Sy
open Go
def TmOk (l : List (FuncId × Ctr)) : Prop := ∀ I X E f c,tblCtr l f = some c → CtrOk (mkCx l) ObjD I X E f c
theorem tm_cons {l : List (FuncId × Ctr)} {f : FuncId} {c : Ctr} (h : TmOk l) (h0 : ∀ I X E,CtrOk (mkCx l) ObjD I X E f c) : TmOk ((f,c) :: l) := tbl_cons h h0
theorem tm_lit {l : List (FuncId × Ctr)} {f : FuncId} {L : MLit} (h : TmOk l) (hc : L.check (mkCx l) 20 400 f = true) (hg : L.gl = [0,1,2] := by rfl) (hs : L.sup = [] := by rfl) : ∀ I X E,CtrOk (mkCx l) ObjD I X E f (L.ms (mkCx l) 20 400 f).ctr :=
 MLit.ok (C := mkCx l) cx_mix cx_name h (fun gl id h=>by rw [hg]; exact mkCx_gl l gl id h) hc hs
theorem tm0_ok : TmOk tm0 := by
 have h : TmOk tb60 := fun I X E f c hc=>tb60_ok ObjD I X E f c hc
 have h := tm_cons h (searchC_ok (C := mkCx _) rfl)
 have h := tm_cons h (cloneFaultEvent_ok (C := mkCx _) rfl (mkCx_gl _))
 have h := tm_cons h (gatesS_ok (C := mkCx _) rfl (mkCx_gl _) (fun _ _ _ h=>h))
 have h := tm_cons h (savedS_ok _)
 have h := tm_cons h (setS_ok _)
 have h := tm_cons h (beginS_ok _)
 have h := tm_cons h (stepS_ok _)
 exact tm_cons h (brokenS_ok _)
theorem tm1_ok : TmOk tm1 := tm_cons tm0_ok (fun I X E=>(tm_lit tm0_ok m265b_check rfl rfl I X E).or (tm_lit tm0_ok m265a_check rfl rfl I X E))
theorem tm2_ok : TmOk tm2 := tm_cons tm1_ok (tm_lit tm1_ok m225_check)
theorem tm3_ok : TmOk tm3 := tm_cons tm2_ok (tm_lit tm2_ok m109_check)
theorem tm4_ok : TmOk tm4 := tm_cons tm3_ok (tm_lit tm3_ok m222_check)
theorem tm5_ok : TmOk tm5 := tm_cons tm4_ok (tm_lit tm4_ok m223_check)
theorem tm6_ok : TmOk tm6 := tm_cons tm5_ok (tm_lit tm5_ok m162_check)
theorem tm7_ok : TmOk tm7 := tm_cons tm6_ok (tm_lit tm6_ok m92_check)
theorem tm8_ok : TmOk tm8 := tm_cons tm7_ok (tm_lit tm7_ok m93_check)
theorem tm9_ok : TmOk tm9 := tm_cons tm8_ok (tm_lit tm8_ok m94_check)
theorem tm10_ok : TmOk tm10 := tm_cons tm9_ok (tm_lit tm9_ok m96_check)
theorem tm11_ok : TmOk tm11 := tm_cons tm10_ok (tm_lit tm10_ok m99_check)
theorem tm12_ok : TmOk tm12 := tm_cons tm11_ok (tm_lit tm11_ok m100_check)
theorem tm13_ok : TmOk tm13 := tm_cons tm12_ok (tm_lit tm12_ok m101_check)
theorem tm14_ok : TmOk tm14 := tm_cons tm13_ok (tm_lit tm13_ok m102_check)
def drvM : List SB := m29n.mem
def root29 : Bd := ⟨[(19,19),(2,2),(1,1),(0,0)],[],[]⟩
def drvD : List (Nat × Int × Int) := m29n.dom.filter fun p=>Nat.ble 14 p.1
def tickOk (L : MLit) : Bool := closedV L.k L.args && closedM L.k L.mem && match numsIn drvM 141 root29 L.after with
 | some rs=>domOk drvD rs L.k L.dom L.iva
 | none=>false
noncomputable abbrev Ctm : Cx := mkCx tm16
def ObjF : Objs where
 rel k _ L w := if k = 5 then BlankRel L w else False
 keep := fun {k vs L w w'} h hs hk=>by
  by_cases h5 : k = 5
  ·simp only [h5,if_true] at h ⊢
   exact h.keep hk
  ·simp only [if_neg h5] at h
theorem objF5 : ∀ (vs : List Value) L w,ObjF.rel 5 vs L w ↔ BlankRel L w := fun _ _ _=>Iff.rfl
def FrOk (l : List (FuncId × Ctr)) : Prop := ∀ I X E f c,tblCtr l f = some c → CtrOk (mkCx l) ObjF I X E f c
theorem fr_lit {l : List (FuncId × Ctr)} {f : FuncId} {L : MLit} (h : FrOk l) (hc : L.check (mkCx l) 20 6000 f = true) (hg : L.gl = [0,1,2] := by rfl) (hs : L.sup = [] := by rfl) : ∀ I X E,CtrOk (mkCx l) ObjF I X E f (L.ms (mkCx l) 20 6000 f).ctr :=
 MLit.ok (C := mkCx l) cx_mix cx_name h (fun gl id h=>by rw [hg]; exact mkCx_gl l gl id h) hc hs
theorem fr4 : FrOk fb4 := fb4_ok objF5
theorem fr5 : FrOk fb5 := tbl_cons fr4 (fr_lit fr4 m126_check)
theorem fr6 : FrOk fb6 := tbl_cons fr5 (fr_lit fr5 m55_check)
theorem fr7 : FrOk fb7 := tbl_cons fr6 (fun I X E=>(fr_lit fr6 m18a_check rfl rfl I X E).or ((fun I X E=>(fr_lit fr6 m18b_check rfl rfl I X E).or ((fun I X E=>(fr_lit fr6 m18c_check rfl rfl I X E).or (fr_lit fr6 m18d_check rfl rfl I X E)) I X E)) I X E))
noncomputable abbrev Cfr : Cx := mkCx fb7
abbrev fFresh : FuncId := 28
theorem hold_fa : m28a.Holds Cfr ObjF 20 6000 fFresh := MLit.holds (C := Cfr) cx_mix cx_name fr7 m28a_check
theorem hold_fb : m28b.Holds Cfr ObjF 20 6000 fFresh := MLit.holds (C := Cfr) cx_mix cx_name fr7 m28b_check
theorem hold_fc : m28c.Holds Cfr ObjF 20 6000 fFresh := MLit.holds (C := Cfr) cx_mix cx_name fr7 m28c_check
theorem hold_fd : m28d.Holds Cfr ObjF 20 6000 fFresh := MLit.holds (C := Cfr) cx_mix cx_name fr7 m28d_check
theorem sats_iff {ρ : Map} {E : Nat → Int} : ∀ {ls : List Leaf} {vs : List Value},sats ρ E ls vs ↔ ∀ (i : Nat) (l : Leaf),ls[i]? = some l → ∃ v,vs[i]? = some v ∧ l.sat ρ E v
 | [],vs=>⟨fun _ i l h=>(by simp at h),fun _=>trivial⟩
 | l :: ls,[]=>⟨fun h=>h.elim,fun h=>by obtain ⟨v,h,_⟩ := h 0 l rfl; simp at h⟩
 | l :: ls,v :: vs=>by
  constructor
  ·rintro ⟨h1,h2⟩ i k hk
   cases i with
   | zero=>simp only [List.getElem?_cons_zero,Option.some.injEq] at hk; subst hk; exact ⟨v,rfl,h1⟩
   | succ i=>exact sats_iff.1 h2 i k (by simpa using hk)
  ·intro h
   refine ⟨?_,sats_iff.2 fun i k hk=>h (i + 1) k (by simpa using hk)⟩
   obtain ⟨u,hu,hs⟩ := h 0 l rfl
   simp only [List.getElem?_cons_zero,Option.some.injEq] at hu
   rw [hu]; exact hs
theorem M.retell {O O' : Objs} {ρ ρ' : Map} {E E' : Nat → Int} {pat pat' : List SB} {w : World} (hM : M O ρ E pat w) (old : Nat → Bool) (hb : ∀ b ∈ pat',Blk O' ρ' E' b w)
  (ho : ∀ b ∈ pat',old b.id = true → ρ' b.id = ρ b.id ∧ ∃ a ∈ pat,a.id = b.id ∧ a.cs = [])
  (hn : ∀ b ∈ pat',old b.id = false → ∀ L,ρ' b.id = some L → ∀ x,L.own x → x < w.heap.size ∧ ∀ a ∈ pat,a.cs = [] → ∀ L2,ρ a.id = some L2 → ¬ L2.own x)
  (hnn : ∀ b ∈ pat',∀ b' ∈ pat',old b.id = false → old b'.id = false → b.id ≠ b'.id → ∀ L L',ρ' b.id = some L → ρ' b'.id = some L' → ∀ x,L.own x → ¬ L'.own x) : M O' ρ' E' pat' w := by
 refine ⟨fun b h _=>hb b h,fun b h b' h' _ _ hne L L' hL hL' x hx hx'=>?_,fun b h _ L hL x hx=>?_⟩
 ·cases h1 : old b.id <;> cases h2 : old b'.id
  ·exact hnn b h b' h' h1 h2 hne L L' hL hL' x hx hx'
  ·obtain ⟨e,a,a1,a2,a3⟩ := ho b' h' h2
   exact (hn b h h1 L hL x hx).2 a a1 a3 L' (by rw [a2,← e]; exact hL') hx'
  ·obtain ⟨e,a,a1,a2,a3⟩ := ho b h h1
   exact (hn b' h' h2 L' hL' x hx').2 a a1 a3 L (by rw [a2,← e]; exact hL) hx
  ·obtain ⟨e,a,a1,a2,a3⟩ := ho b h h1
   obtain ⟨e',a',a1',a2',a3'⟩ := ho b' h' h2
   exact hM.disj a a1 a' a1' (allC_nil a3) (allC_nil a3') (by rw [a2,a2']; exact hne) L L' (by rw [a2,← e]; exact hL) (by rw [a2',← e']; exact hL') x hx hx'
 ·cases h1 : old b.id
  ·exact (hn b h h1 L hL x hx).1
  ·obtain ⟨e,a,a1,a2,a3⟩ := ho b h h1
   exact hM.low a a1 (allC_nil a3) L (by rw [a2,← e]; exact hL) x hx
def patD : List SB := (drvM.filter fun b=>!(Nat.beq b.id 5 || Nat.beq b.id 4)).map fun b=>if b.id = 19 then { b with cells := (b.cells.set 73 .junk).set 121 .junk } else b
def rootD : Bd := ⟨[(19,181),(2,2),(1,1),(0,0)],[],[]⟩
def patS : List SB := ((sh 0).mem.filter fun b=>!Nat.beq b.id 15).map fun b=>if b.id = 19 then { b with cells := b.cells.set 0 .junk } else b
def rootS : Bd := ⟨[(19,90)],[],[]⟩
def cellB (bs : List SB) (id i : Nat) (l : Leaf) : Bool := bs.any fun b=>Nat.beq b.id id && b.cs.isEmpty && b.obj.isNone && match b.cells[i]? with
 | some k=>k.same l
 | none=>false
def frOk (L : MLit) : Bool := match again patD rootD L.after,again patS rootS L.after with
 | some dA,some dB=>entsOk dA.en (entsOf dA.en 140) && entsOk dB.en (entsOf dB.en 11) && (dA.bl.all fun x=>patD.any fun b=>Nat.beq b.id x.1) && (dB.bl.all fun x=>patS.any fun b=>Nat.beq b.id x.1) &&
   (dA.bl.all fun x=>!Nat.beq x.2 20 && dB.bl.all fun y=>!Nat.beq x.2 y.2) && (dB.bl.all fun y=>!Nat.beq y.2 20) && domOk (drvD.filter fun p=>Nat.blt p.1 140) (entsOf dA.en 140) L.k L.dom L.iva &&
   (drvD.all fun p=>Nat.blt p.1 140) && domOk (sh 0).dom (entsOf dB.en 11) L.k L.dom L.iva && cellB L.after 181 73 (.ptr 90 0) && cellB L.after 181 121 .nilS && cellB L.after 90 0 (.ptr 20 0) &&
   L.after.any fun b=>Nat.beq b.id 20 && b.cs.isEmpty && match b.obj with
    | some k=>Nat.beq k 5
    | none=>false
 | _,_=>false
def frOk2 (L : MLit) : Bool := match again patD rootD L.after with
 | some dA=>match (entsOf dA.en 140)[65]? with
  | some (Ref.c n)=>decide (n = 0)
  | _=>false
 | none=>false
theorem Blk.patch {O O' : Objs} {ρ ρ' : Map} {E : Nat → Int} {b b' : SB} {w : World} (h : Blk O ρ E b' w) (h1 : b'.obj = none) (h2 : b.obj = none) (hid : b.id = b'.id) (hi : ρ' b.id = ρ b.id) (hle : Lk ρ ρ')
  (hc : ∀ (i : Nat) (l : Leaf),b.cells[i]? = some l → b'.cells[i]? = some l ∨ ∀ L vs t,ρ b.id = some L → w.heap[L.n]? = some (.cells (List.toArray vs) t (0,0)) → ∃ v,vs[i]? = some v ∧ l.sat ρ' E v) : Blk O' ρ' E b w := by
 obtain ⟨L,vs,e1,e2,e3⟩ := h
 rw [h1] at e3
 obtain ⟨k1,k2,t,k3,kty⟩ := e3
 rw [← hid] at e1
 refine ⟨L,vs,by rw [hi]; exact e1,sats_iff.2 fun i l hl=>?_,?_⟩
 ·rcases hc i l hl with h | h
  ·obtain ⟨v,hv,hs⟩ := sats_iff.1 e2 i l h
   exact ⟨v,hv,Leaf.mono hle l hs⟩
  ·exact h L vs t e1 k3
 ·rw [h2]
  exact ⟨k1,k2,t,k3,kty⟩
theorem cellB_ok {O : Objs} {ρ : Map} {E : Nat → Int} {w : World} {bs : List SB} {id i : Nat} {l : Leaf} (h : cellB bs id i l = true) (hM : M O ρ E bs w) : ∃ L vs t,ρ id = some L ∧ w.heap[L.n]? = some (.cells (List.toArray vs) t (0,0)) ∧ ∃ v,vs[i]? = some v ∧ l.sat ρ E v := by
 obtain ⟨b,hb,h⟩ := List.any_eq_true.1 h
 simp only [Bool.and_eq_true,List.isEmpty_iff,Option.isNone_iff_eq_none] at h
 obtain ⟨⟨⟨h1,h2⟩,h3⟩,h4⟩ := h
 obtain ⟨L,vs,e1,e2,e3⟩ := hM.blk b hb (allC_nil h2)
 rw [h3] at e3
 obtain ⟨k1,k2,t,k3,_⟩ := e3
 split at h4
 ·rename_i k hk
  obtain rfl := Leaf.same_ok h4
  rw [Nat.eq_of_beq_eq_true h1] at e1
  exact ⟨L,vs,t,e1,k3,sats_iff.1 e2 i k hk⟩
 ·cases h4
theorem cells_inj {w : World} {n : Nat} {vs us : List Value} {t t' : TypeId} (h : w.heap[n]? = some (.cells vs.toArray t (0,0))) (h' : w.heap[n]? = some (.cells us.toArray t' (0,0))) : vs = us := by
 rw [h] at h'
 simp only [Option.some.injEq,Obj.cells.injEq] at h'
 simpa using h'.1
theorem ents_ok2 {en : List (Nat × Ref)} {n : Nat} {q : Int} {E : Nat → Int} (h : entsOk en (entsOf en n) = true) : ∀ x ∈ en,ofL ((entsOf en n).map (Ref.val E) ++ [q]) x.1 = x.2.val E := fun x hx=>by
 have h1 := ents_ok (E := E) h x hx
 have hlt : x.1 < (entsOf en n).length := by
  have := List.all_eq_true.1 h x hx
  split at this
  ·rename_i r hr; exact (List.getElem?_eq_some_iff.1 hr).1
  ·cases this
 rw [← h1]
 unfold ofL
 rw [List.getD_eq_getElem?_getD,List.getD_eq_getElem?_getD,List.getElem?_append_left (by simpa using hlt)]
theorem ofL_last {l : List Int} {q : Int} {n : Nat} (h : l.length = n) : ofL (l ++ [q]) n = q := by
 subst h
 unfold ofL
 simp
noncomputable def blankN : Int := codeI (0 :: 0 :: List.replicate 1024 255)
noncomputable def frStL (L : MLit) (E : Nat → Int) : List Int := match again patS rootS L.after with
 | some dB=>(entsOf dB.en 11).map (Ref.val E) ++ [blankN]
 | none=>[]
noncomputable def freshL (L : MLit) (E : Nat → Int) : List Int := match again patD rootD L.after with
 | some dA=>(entsOf dA.en 140).map (Ref.val E) ++ [codeI (0 :: frStL L E)]
 | none=>[]
theorem beqF {a b : Nat} (h : a ≠ b) : Nat.beq a b = false := by
 cases e : Nat.beq a b with
 | false=>rfl
 | true=>exact absurd (Nat.eq_of_beq_eq_true e) h
theorem patD_mem {b : SB} (h : b ∈ drvM) (h5 : b.id ≠ 5) (h4 : b.id ≠ 4) : (if b.id = 19 then { b with cells := (b.cells.set 73 .junk).set 121 .junk } else b) ∈ patD :=
 List.mem_map.2 ⟨b,List.mem_filter.2 ⟨h,by rw [beqF h5,beqF h4]; rfl⟩,rfl⟩
theorem patS_mem {b : SB} (h : b ∈ (sh 0).mem) (h5 : b.id ≠ 15) : (if b.id = 19 then { b with cells := b.cells.set 0 .junk } else b) ∈ patS :=
 List.mem_map.2 ⟨b,List.mem_filter.2 ⟨h,by rw [beqF h5]; rfl⟩,rfl⟩
theorem drv_objs : ∀ b ∈ drvM,b.cs = [] ∧ (b.id ≠ 5 → b.id ≠ 4 → b.obj = none) ∧ (b.id = 5 → b = ⟨5,[],[.int .i64 (.e 140)],some 1⟩) ∧ (b.id = 4 → b = ⟨4,[],[],some 1002⟩) ∧ (b.id = 19 → b.cells[73]? = some (.opq 5) ∧ b.cells[121]? = some (.opl 4 (.e 65))) := by decide +kernel
theorem sh_objs : ∀ b ∈ (sh 0).mem,b.cs = [] ∧ (b.id ≠ 15 → b.obj = none) ∧ (b.id = 15 → b = ⟨15,[],[.int .i64 (.e 11)],some 4⟩) ∧ (b.id = 19 → b.cells[0]? = some (.opq 15)) := by decide +kernel
theorem patD_ids : ∀ b ∈ patD,b.id ≠ 5 ∧ b.id ≠ 4 ∧ b.cs = [] ∧ b.obj = none := by decide +kernel
theorem patS_ids : ∀ b ∈ patS,b.id ≠ 15 ∧ b.cs = [] ∧ b.obj = none := by decide +kernel
theorem bind_in {ρ : Map} {bl : List (Nat × Nat)} {pat : List SB} (h : (bl.all fun x=>pat.any fun b=>Nat.beq b.id x.1) = true) {i : Nat} {B : Loc} (hB : bindMap ρ bl i = some B) : ∃ j b,(i,j) ∈ bl ∧ ρ j = some B ∧ b ∈ pat ∧ b.id = i := by
 unfold bindMap at hB
 cases hl : lkp bl i with
 | none=>rw [hl] at hB; cases hB
 | some j =>
  rw [hl] at hB
  have hm := lkp_mem hl
  obtain ⟨b,hb,he⟩ := List.any_eq_true.1 (List.all_eq_true.1 h _ hm)
  exact ⟨j,b,hm,hB,hb,Nat.eq_of_beq_eq_true he⟩
theorem fr_a : frOk m28a = true := by decide +kernel
theorem fr_b : frOk m28b = true := by decide +kernel
theorem fr_c : frOk m28c = true := by decide +kernel
theorem fr_d : frOk m28d = true := by decide +kernel
theorem fr2_all : frOk2 m28a = true ∧ frOk2 m28b = true ∧ frOk2 m28c = true ∧ frOk2 m28d = true := by decide +kernel
def frOk3 (L : MLit) : Bool := match again patD rootD L.after,again patS rootS L.after with
 | some dA,some dB=>(dA.bl.all fun x=>decide (x.1 < 3 ∨ 19 ≤ x.2)) && (dB.bl.all fun x=>decide (19 ≤ x.2)) && (dA.bl.all fun x=>drvM.any fun b=>Nat.beq b.id x.1)
 | _,_=>false
theorem fr3_all : frOk3 m28a = true ∧ frOk3 m28b = true ∧ frOk3 m28c = true ∧ frOk3 m28d = true := by decide +kernel
theorem fresh_told {L : MLit} (hL : frOk L = true) (hL2 : frOk2 L = true) (hL3 : frOk3 L = true) {E : Nat → Int} {ρ : Map} {w : World} (hM : M ObjF ρ E L.after w) (hS : ∀ dB,again patS rootS L.after = some dB → InDom (sh 0).dom (ofL (frStL L E))) :
  ∃ ρ2,M ObjD ρ2 (ofL (freshL L E)) drvM w ∧ (∀ x ∈ rootD.bl,ρ2 x.1 = ρ x.2) ∧ ∀ i B,ρ2 i = some B → (∃ b ∈ drvM,b.id = i) ∧ (3 ≤ i → ∀ x,B.own x → ∃ a ∈ L.after,19 ≤ a.id ∧ a.cs = [] ∧ ∃ G,ρ a.id = some G ∧ G.own x) := by
 unfold frOk at hL
 split at hL
 rotate_left
 ·cases hL
 rename_i dA dB hdA hdB
 simp only [Bool.and_eq_true] at hL
 obtain ⟨⟨⟨⟨⟨⟨⟨⟨⟨⟨⟨⟨c1,c2⟩,c3⟩,c4⟩,c5⟩,c6⟩,c7⟩,c8⟩,c9⟩,c10⟩,c11⟩,c12⟩,c13⟩ := hL
 have hL3a : (∀ x ∈ dA.bl,x.1 < 3 ∨ 19 ≤ x.2) ∧ (∀ x ∈ dB.bl,19 ≤ x.2) ∧ ∀ x ∈ dA.bl,∃ b ∈ drvM,b.id = x.1 := by
  unfold frOk3 at hL3
  rw [hdA,hdB] at hL3
  simp only [Bool.and_eq_true] at hL3
  refine ⟨fun x hx=>of_decide_eq_true (List.all_eq_true.1 hL3.1.1 x hx),fun x hx=>of_decide_eq_true (List.all_eq_true.1 hL3.1.2 x hx),fun x hx=>?_⟩
  obtain ⟨b,hb,e⟩ := List.any_eq_true.1 (List.all_eq_true.1 hL3.2 x hx)
  exact ⟨b,hb,Nat.eq_of_beq_eq_true e⟩
 have hFL : freshL L E = (entsOf dA.en 140).map (Ref.val E) ++ [codeI (0 :: frStL L E)] := by unfold freshL; rw [hdA]
 have hSL : frStL L E = (entsOf dB.en 11).map (Ref.val E) ++ [blankN] := by unfold frStL; rw [hdB]
 obtain ⟨a1,_,a3,a4,_,a6⟩ := again_ok (Ef := ofL (freshL L E)) hdA hM (by rw [hFL]; exact ents_ok2 c1)
 obtain ⟨b1,_,b3,b4,_,b6⟩ := again_ok (Ef := ofL (frStL L E)) hdB hM (by rw [hSL]; exact ents_ok2 c2)
 obtain ⟨b20,m20,h20⟩ := List.any_eq_true.1 c13
 simp only [Bool.and_eq_true,List.isEmpty_iff] at h20
 obtain ⟨⟨h20,h20c⟩,h20o⟩ := h20
 have h20 := Nat.eq_of_beq_eq_true h20
 obtain ⟨L20,vs20,f1,f2,f3⟩ := hM.blk b20 m20 (allC_nil h20c)
 have hBl : BlankRel L20 w := by
  split at h20o
  ·rename_i k hk
   rw [hk] at f3
   obtain rfl := Nat.eq_of_beq_eq_true h20o
   simpa [Objs.re,ObjF] using f3
  ·cases h20o
 rw [h20] at f1
 obtain ⟨L90,us,t90,g1,g2,v90,g3,g4⟩ := cellB_ok c12 hM
 obtain ⟨L20',g5,g6⟩ := g4
 obtain rfl : L20 = L20' := by rw [f1] at g5; injection g5
 let ρi : Map := fun i=>if i = 15 then ρ 20 else bindMap ρ dB.bl i
 have hle : Le (bindMap ρ dB.bl) ρi := fun i B hB=>by
  obtain ⟨j,b,h1,h2,h3,h4⟩ := bind_in c4 hB
  have := (patS_ids b h3).1
  show (if i = 15 then ρ 20 else bindMap ρ dB.bl i) = some B
  rw [if_neg (by omega)]; exact hB
 have hIn : M ObjIn ρi (ofL (frStL L E)) (sh 0).mem w := by
  refine M.retell b1 (fun i=>!Nat.beq i 15) (fun b hb=>?_) (fun b hb ho=>?_) (fun b hb ho K hK x hx=>?_) (fun b hb b' hb' h1 h2 hne=>?_)
  ·by_cases h15 : b.id = 15
   ·rw [(sh_objs b hb).2.2.1 h15]
    refine ⟨L20,[.int .i64 (ofL (frStL L E) 11)],f1,⟨rfl,trivial⟩,?_⟩
    simp only [Objs.re]
    rw [if_neg (by decide)]
    show FlRel _ L20 w
    rw [hSL,ofL_last (by simp [entsOf])]
    exact hBl.told
   ·refine Blk.patch (b1.blk _ (patS_mem hb h15) (allC_nil (patS_ids _ (patS_mem hb h15)).2.1)) (patS_ids _ (patS_mem hb h15)).2.2 ((sh_objs b hb).2.1 h15) (by split <;> rfl) (if_neg h15) hle.lk fun i l hl=>?_
    by_cases h19 : b.id = 19
    ·rw [if_pos h19]
     by_cases hi : i = 0
     ·right
      intro L1 vs t e1 e2
      rw [h19,b3 (19,90) (b4 _ List.mem_cons_self),g1] at e1
      injection e1 with e1
      subst e1
      obtain rfl := cells_inj e2 g2
      rw [hi,(sh_objs b hb).2.2.2 h19] at hl
      injection hl with hl
      rw [hi,← hl]
      obtain ⟨F,tF,I,tI,W,tW,c,p1,p2,_⟩ := hBl
      refine ⟨v90,g3,L20,f1,by rw [g6,p2,p1],fun cs h=>?_,fun cs h=>?_⟩
      ·rw [g6] at h; cases h
      ·rw [g6] at h; cases h
     ·left
      simp only
      rw [List.getElem?_set_ne (by omega)]
      exact hl
    ·rw [if_neg h19]
     exact .inl hl
  ·have h15 : b.id ≠ 15 := fun e=>by rw [e] at ho; cases ho
   exact ⟨if_neg h15,_,patS_mem hb h15,by split <;> rfl,(patS_ids _ (patS_mem hb h15)).2.1⟩
  ·have h15 : b.id = 15 := by
    cases e : Nat.beq b.id 15 with
    | true=>exact Nat.eq_of_beq_eq_true e
    | false=>simp [e] at ho
   have hKL : K = L20 := by
    rw [h15] at hK
    have : ρ 20 = some K := hK
    rw [f1] at this
    injection this with this
    exact this.symm
   subst hKL
   refine ⟨hM.low b20 m20 (allC_nil h20c) K (by rw [h20]; exact f1) x hx,fun a ha _ L2 hL2 hx2=>?_⟩
   obtain ⟨a',q1,q2,q3⟩ := b6 a ha
   rw [b3 _ q2] at hL2
   have hne : a'.id ≠ 20 := fun e=>by
    have := List.all_eq_true.1 c6 _ q2
    simp [e] at this
   exact hM.disj b20 m20 a' q1 (allC_nil h20c) (allC_nil q3) (by rw [h20]; exact fun e=>hne e.symm) K L2 (by rw [h20]; exact f1) hL2 x hx hx2
  ·refine absurd ?_ hne
   have : ∀ i,(!Nat.beq i 15) = false → i = 15 := fun i h=>by
    cases e : Nat.beq i 15 with
    | true=>exact Nat.eq_of_beq_eq_true e
    | false=>rw [e] at h; cases h
   rw [this _ h1,this _ h2]
 let LS : Loc := ⟨L90.n,L90.tot,fun x=>∃ i B,ρi i = some B ∧ B.own x,.pointer (some ⟨L90.n,0,none⟩)⟩
 let LN : Loc := ⟨0,0,fun _=>False,.slice none 0 0⟩
 have hown : ∀ i B,ρi i = some B → ∃ a ∈ L.after,a.cs = [] ∧ ρ a.id = some B ∧ (∀ y ∈ dA.bl,y.2 ≠ a.id) ∧ 19 ≤ a.id ∧ ∃ b ∈ (sh 0).mem,b.id = i := fun i B hB=>by
  by_cases h15 : i = 15
  ·subst h15
   refine ⟨b20,m20,h20c,by rw [h20]; exact hB,fun y hy e=>?_,by rw [h20]; decide,by decide +kernel⟩
   have := List.all_eq_true.1 c5 _ hy
   rw [e,h20] at this
   simp at this
  ·have hB' : bindMap ρ dB.bl i = some B := by
    have : (if i = 15 then ρ 20 else bindMap ρ dB.bl i) = some B := hB
    rw [if_neg h15] at this; exact this
   obtain ⟨j,b,h1,h2,h3,h4⟩ := bind_in c4 hB'
   obtain ⟨a',q1,q2,q3⟩ := b6 b h3
   have q4 := b3 _ q2
   simp only [h4] at q4
   refine ⟨a',q1,q3,by rw [← q4]; exact hB',fun y hy e=>?_,hL3a.2.1 _ q2,?_⟩
   ·have := List.all_eq_true.1 c5 _ hy
    rw [Bool.and_eq_true] at this
    have := List.all_eq_true.1 this.2 _ q2
    rw [e] at this
    simp at this
   ·obtain ⟨b0,k1,k2⟩ := List.mem_map.1 h3
    refine ⟨b0,(List.mem_filter.1 k1).1,?_⟩
    rw [← h4,← k2]
    split <;> rfl
 have hPk : PackRel ObjIn sh [.int .i64 (codeI (0 :: frStL L E))] LS w := ⟨0,frStL L E,ρi,rfl,by rw [hSL]; simp [entsOf]; decide,hS dB hdB,hIn,fun i B hB=>by
   obtain ⟨_,_,_,_,_,_,h⟩ := hown i B hB
   exact h,⟨L90,by
    show (if (19 : Nat) = 15 then ρ 20 else bindMap ρ dB.bl 19) = some L90
    rw [if_neg (by decide),b3 (19,90) (b4 _ List.mem_cons_self)]
    exact g1,rfl⟩,fun x=>Iff.rfl⟩
 let ρ2 : Map := fun i=>if i = 5 then some LS else if i = 4 then some LN else bindMap ρ dA.bl i
 have hρ2 : ∀ i,i ≠ 5 → i ≠ 4 → ρ2 i = bindMap ρ dA.bl i := fun i h5 h4=>by
  show (if i = 5 then some LS else if i = 4 then some LN else bindMap ρ dA.bl i) = _
  rw [if_neg h5,if_neg h4]
 have hle2 : Le (bindMap ρ dA.bl) ρ2 := fun i B hB=>by
  obtain ⟨j,b,h1,h2,h3,h4⟩ := bind_in c3 hB
  have := patD_ids b h3
  rw [hρ2 i (by omega) (by omega)]; exact hB
 obtain ⟨L181,ws,t181,r1,r2,v73,r3,L90',r4,r5⟩ := cellB_ok c10 hM
 obtain ⟨L181',ws',t181',r1',r2',v121,r6,r7⟩ := cellB_ok c11 hM
 obtain rfl : L181 = L181' := by rw [r1] at r1'; injection r1'
 obtain rfl := cells_inj r2 r2'
 obtain rfl : L90 = L90' := by rw [g1] at r4; injection r4
 have h65 : ofL (freshL L E) 65 = 0 := by
  rw [hFL]
  unfold frOk2 at hL2
  rw [hdA] at hL2
  simp only at hL2
  split at hL2
  ·rename_i n hn
   unfold ofL
   rw [List.getD_eq_getElem?_getD,List.getElem?_append_left (by simp [entsOf]),List.getElem?_map,hn]
   exact of_decide_eq_true hL2
  ·cases hL2
 refine ⟨ρ2,M.retell a1 (fun i=>!(Nat.beq i 5 || Nat.beq i 4)) (fun b hb=>?_) (fun b hb ho=>?_) (fun b hb ho K hK x hx=>?_) (fun b hb b' hb' h1 h2 hne K K' hK hK' x hx hx'=>?_),fun x hx=>?_,fun i B hB=>?_⟩
 ·by_cases h5 : b.id = 5
  ·rw [(drv_objs b hb).2.2.1 h5]
   refine ⟨LS,[.int .i64 (ofL (freshL L E) 140)],rfl,⟨rfl,trivial⟩,?_⟩
   simp only [Objs.re]
   rw [if_neg (by decide)]
   show PackRel ObjIn sh _ LS w
   rw [hFL,ofL_last (by simp [entsOf])]
   exact hPk
  ·by_cases h4 : b.id = 4
   ·rw [(drv_objs b hb).2.2.2.1 h4]
    refine ⟨LN,[],rfl,trivial,?_⟩
    simp only [Objs.re]
    rw [if_pos (by decide)]
    exact ⟨none,0,0,rfl,Nat.le_refl _,.inl ⟨rfl,rfl⟩⟩
   ·refine Blk.patch (a1.blk _ (patD_mem hb h5 h4) (allC_nil (patD_ids _ (patD_mem hb h5 h4)).2.2.1)) (patD_ids _ (patD_mem hb h5 h4)).2.2.2 ((drv_objs b hb).2.1 h5 h4) (by split <;> rfl) (hρ2 _ h5 h4) hle2.lk fun i l hl=>?_
    by_cases h19 : b.id = 19
    ·rw [if_pos h19]
     obtain ⟨l73,l121⟩ := (drv_objs b hb).2.2.2.2 h19
     have same : ∀ L1 vs t,bindMap ρ dA.bl b.id = some L1 → w.heap[L1.n]? = some (.cells (List.toArray vs) t (0,0)) → vs = ws := fun L1 vs t e1 e2=>by
      rw [h19,a3 (19,181) (a4 _ List.mem_cons_self),r1] at e1
      injection e1 with e1
      subst e1
      exact cells_inj e2 r2
     by_cases h73 : i = 73
     ·right
      intro L1 vs t e1 e2
      obtain rfl := same L1 vs t e1 e2
      rw [h73,l73] at hl
      injection hl with hl
      rw [h73,← hl]
      refine ⟨v73,r3,LS,rfl,r5,fun cs h=>?_,fun cs h=>?_⟩
      ·rw [r5] at h; cases h
      ·rw [r5] at h; cases h
     ·by_cases h121 : i = 121
      ·right
       intro L1 vs t e1 e2
       obtain rfl := same L1 vs t e1 e2
       rw [h121,l121] at hl
       injection hl with hl
       rw [h121,← hl]
       exact ⟨v121,r6,LN,rfl,r7,none,0,0,r7,by show ofL (freshL L E) 65 = _; rw [h65]; rfl⟩
      ·left
       simp only
       rw [List.getElem?_set_ne (by omega),List.getElem?_set_ne (by omega)]
       exact hl
    ·rw [if_neg h19]
     exact .inl hl
 ·simp only [Bool.not_eq_true',Bool.or_eq_false_iff] at ho
  have h5 : b.id ≠ 5 := fun e=>by rw [e] at ho; cases ho.1
  have h4 : b.id ≠ 4 := fun e=>by rw [e] at ho; cases ho.2
  exact ⟨hρ2 _ h5 h4,_,patD_mem hb h5 h4,by split <;> rfl,(patD_ids _ (patD_mem hb h5 h4)).2.2.1⟩
 ·by_cases h5 : b.id = 5
  ·rw [h5] at hK
   obtain rfl : LS = K := by
    have : some LS = some K := hK
    injection this
   obtain ⟨i,B,hB,hxB⟩ := hx
   obtain ⟨a',q1,q2,q3,q4,_⟩ := hown i B hB
   refine ⟨hM.low a' q1 (allC_nil q2) B q3 x hxB,fun a ha _ L2 hL2 hx2=>?_⟩
   obtain ⟨a'',p1,p2,p3⟩ := a6 a ha
   rw [a3 _ p2] at hL2
   exact hM.disj a' q1 a'' p1 (allC_nil q2) (allC_nil p3) (fun e=>q4 _ p2 e.symm) B L2 q3 hL2 x hxB hx2
  ·have h4 : b.id = 4 := by
    cases e : Nat.beq b.id 4 with
    | true=>exact Nat.eq_of_beq_eq_true e
    | false=>simp [e,beqF h5] at ho
   rw [h4] at hK
   obtain rfl : LN = K := by
    have : some LN = some K := hK
    injection this
   exact hx.elim
 ·have two : ∀ i,(!(Nat.beq i 5 || Nat.beq i 4)) = false → i = 5 ∨ i = 4 := fun i h=>by
   by_cases h5 : i = 5
   ·exact .inl h5
   ·by_cases h4 : i = 4
    ·exact .inr h4
    ·rw [beqF h5,beqF h4] at h; cases h
  have non : ∀ K x,ρ2 4 = some K → ¬ K.own x := fun K x hK hx=>by
   have : some LN = some K := hK
   injection this with this
   subst this
   exact hx
  rcases two _ h1 with e | e <;> rcases two _ h2 with e' | e'
  ·exact hne (e.trans e'.symm)
  ·rw [e'] at hK'; exact non K' x hK' hx'
  ·rw [e] at hK; exact non K x hK hx
  ·exact hne (e.trans e'.symm)
 ·have : x.1 ≠ 5 ∧ x.1 ≠ 4 := (by decide : ∀ x ∈ rootD.bl,x.1 ≠ 5 ∧ x.1 ≠ 4) x hx
  rw [hρ2 _ this.1 this.2]
  exact a3 x (a4 x hx)
 ·by_cases h5 : i = 5
  ·subst h5
   have : some LS = some B := hB
   injection this with this
   subst this
   refine ⟨by decide +kernel,fun _ x hx=>?_⟩
   obtain ⟨i',B',hi',hx'⟩ := hx
   obtain ⟨a',q1,q2,q3,_,q5,_⟩ := hown i' B' hi'
   exact ⟨a',q1,q5,q2,B',q3,hx'⟩
  by_cases h4 : i = 4
  ·subst h4
   have : some LN = some B := hB
   injection this with this
   subst this
   exact ⟨by decide +kernel,fun _ x hx=>hx.elim⟩
  rw [hρ2 i h5 h4] at hB
  obtain ⟨j,b,h1,h2,h3,h4'⟩ := bind_in c3 hB
  obtain ⟨a',q1,q2,q3⟩ := a6 b h3
  have q4 := a3 _ q2
  simp only [h4'] at q4
  have hja : ρ a'.id = some B := by rw [← q4]; exact hB
  have q2' : (i,a'.id) ∈ dA.bl := by rw [← h4']; exact q2
  refine ⟨hL3a.2.2 _ q2',fun h3i x hx=>⟨a',q1,?_,q3,B,hja,hx⟩⟩
  rcases hL3a.1 _ q2' with h | h
  ·simp only at h; omega
  ·exact h
theorem M.plainO {O O' : Objs} {ρ : Map} {E : Nat → Int} {m : List SB} {w : World} (hp : ∀ b ∈ m,b.obj = none) (hM : M O ρ E m w) : M O' ρ E m w :=
 ⟨fun b hb hc=>by
  obtain ⟨L,vs,e1,e2,e3⟩ := hM.blk b hb hc
  rw [hp b hb] at e3
  exact ⟨L,vs,e1,e2,by rw [hp b hb]; exact e3⟩,hM.disj,hM.low⟩
theorem dom_app {dom : List (Nat × Int × Int)} {l : List Int} {q : Int} {n : Nat} (hn : l.length = n) (h : ∀ p ∈ dom,p.1 < n) (hd : InDom dom (ofL l)) : InDom dom (ofL (l ++ [q])) := fun p hp=>by
 have h1 := hd p hp
 have h2 := h p hp
 unfold ofL at h1 ⊢
 rw [List.getD_eq_getElem?_getD] at h1
 rw [List.getD_eq_getElem?_getD,List.getElem?_append_left (by omega)]
 exact h1
theorem sh0_dom : ∀ p ∈ (sh 0).dom,p.1 < 11 := by decide +kernel
theorem fresh_dom {L : MLit} (H : L.Holds Cfr ObjF 20 6000 fFresh) (hL : frOk L = true) {xs : List Int} (hd : InDom L.dom (ofL xs)) :
  InDom drvD (ofL (freshL L (L.ent Cfr 20 6000 fFresh xs))) ∧ (∀ dB,again patS rootS L.after = some dB → InDom (sh 0).dom (ofL (frStL L (L.ent Cfr 20 6000 fFresh xs)))) ∧ (freshL L (L.ent Cfr 20 6000 fFresh xs)).length = 141 := by
 unfold frOk at hL
 split at hL
 rotate_left
 ·cases hL
 rename_i dA dB hdA hdB
 simp only [Bool.and_eq_true] at hL
 obtain ⟨⟨⟨⟨⟨⟨⟨⟨⟨⟨⟨⟨c1,c2⟩,c3⟩,c4⟩,c5⟩,c6⟩,c7⟩,c8⟩,c9⟩,c10⟩,c11⟩,c12⟩,c13⟩ := hL
 refine ⟨?_,fun _ _=>?_,by unfold freshL; rw [hdA]; simp [entsOf]⟩
 ·unfold freshL
  rw [hdA]
  refine dom_app (n := 140) (by simp [entsOf]) (fun p hp=>by simpa using List.all_eq_true.1 c8 p hp) fun p hp=>H.dom hd c7 p (List.mem_filter.2 ⟨hp,List.all_eq_true.1 c8 p hp⟩)
 ·unfold frStL
  rw [hdB]
  exact dom_app (n := 11) (by simp [entsOf]) sh0_dom (H.dom hd c9)
def frArgs (L : MLit) : Bool := closedV L.k L.args && closedM L.k L.mem && L.mem.all (fun b=>b.obj.isNone) && L.out.same (.tup [.one (.ptr 181 0),.one (.ptr 20 0),.one (.bool (.c 1))])
theorem fr_args : frArgs m28a = true ∧ frArgs m28b = true ∧ frArgs m28c = true ∧ frArgs m28d = true := by decide +kernel
theorem fresh_run {L : MLit} (H : L.Holds Cfr ObjF 20 6000 fFresh) (hL : frOk L = true) (hL2 : frOk2 L = true) (hL3 : frOk3 L = true) (hA : frArgs L = true) (hs : L.sup = []) {O : Objs} {xs : List Int} (hd : InDom L.dom (ofL xs)) {ρ : Map} {vs : List Value} {w : World}
  (hv : satVs ρ (ofL xs) L.args vs) (hG : GlobOk Cfr ρ) (hM : M O ρ (ofL xs) L.mem w) (hF : Fresh ρ L.nt L.nt') :
  Calls Tryz.prog fFresh vs.toArray w fun e w'=>∃ (D F : Loc) (ρ' : Map),e = .returned (.tuple #[.pointer (some ⟨D.n,0,none⟩),.pointer (some ⟨F.n,0,none⟩),.bool true]) ∧
   InDom drvD (ofL (freshL L (L.ent Cfr 20 6000 fFresh xs))) ∧ Ext ρ ρ' ⟨L.mem,L.nt⟩ ⟨L.after,L.nt'⟩ w w' ∧ M ObjF ρ' (L.ent Cfr 20 6000 fFresh xs) L.after w' ∧ ∃ ρ2,M ObjD ρ2 (ofL (freshL L (L.ent Cfr 20 6000 fFresh xs))) drvM w' ∧ ρ2 19 = some D ∧ (∀ x ∈ rootD.bl,ρ2 x.1 = ρ' x.2) ∧
    ∀ i B,ρ2 i = some B → (∃ b ∈ drvM,b.id = i) ∧ (3 ≤ i → ∀ x,B.own x → ∃ a ∈ L.after,19 ≤ a.id ∧ a.cs = [] ∧ ∃ G,ρ' a.id = some G ∧ G.own x) := by
 unfold frArgs at hA
 simp only [Bool.and_eq_true] at hA
 obtain ⟨⟨⟨h1,h2⟩,h3⟩,h4⟩ := hA
 have h4 := SV.same_ok h4
 obtain ⟨d1,d2,_⟩ := fresh_dom H hL hd
 refine Calls.mono (H.nums h1 h2 hs hd hv hG (M.plainO (fun b hb=>by simpa using List.all_eq_true.1 h3 b hb) hM) hF) fun e w' he=>?_
 obtain ⟨ρ',u,e1,k1,k2,k3⟩ := he
 rw [h4] at k1
 obtain ⟨us,rfl,k1⟩ := k1
 match us,k1 with
 | [u0,u1,u2],⟨⟨D,hD,e0⟩,⟨F,hF',e3⟩,e4,_⟩ =>
  obtain ⟨ρ2,q1,q2,q3⟩ := fresh_told hL hL2 hL3 k2 d2
  refine ⟨D,F,ρ',?_,d1,k3,k2,ρ2,q1,by rw [q2 (19,181) List.mem_cons_self]; exact hD,q2,q3⟩
  rw [e1,e0,e3,show u2 = .bool true from e4]
section
variable {O : Objs} {ρ : Map} {E E' : Nat → Int} {w : World}
def closedQ (lo k : Nat) (d : Bd) : Bool := d.en.all (fun x=>x.2.same (.e x.1) && (Nat.ble lo x.1 && Nat.blt x.1 k)) && d.bl.all (fun x=>Nat.beq x.1 x.2) && d.op.isEmpty
def closedN (lo k : Nat) (m : List SB) : Bool := match again m (selfR m) m with
 | some d=>closedQ lo k d
 | none=>false
theorem M.closedN {lo k : Nat} {m : List SB} (h : closedN lo k m = true) (hM : M O ρ E m w) (hE : ∀ j,lo ≤ j → j < k → E' j = E j) : M O ρ E' m w := by
 unfold Sy.closedN at h
 split at h
 rotate_left
 ·cases h
 rename_i d hd
 unfold closedQ at h
 rw [Bool.and_eq_true,Bool.and_eq_true,List.isEmpty_iff] at h
 have h1 : ∀ x ∈ d.en,x.2 = .e x.1 ∧ lo ≤ x.1 ∧ x.1 < k := fun x hx=>by
  have := List.all_eq_true.1 h.1.1 x hx
  rw [Bool.and_eq_true,Bool.and_eq_true,Nat.blt_eq] at this
  exact ⟨Ref.same_ok this.1,Nat.le_of_ble_eq_true this.2.1,this.2.2⟩
 have h2 : ∀ x ∈ d.bl,x.1 = x.2 := fun x hx=>Nat.eq_of_beq_eq_true (List.all_eq_true.1 h.1.2 x hx)
 obtain ⟨k1,_,k3,_,_,k6⟩ := again_ok (Ef := E') hd hM (fun x hx=>by
  obtain ⟨e,hlo,hlt⟩ := h1 x hx
  rw [e,hE _ hlo hlt]; rfl)
 refine k1.mono (fun i B hB=>⟨B,?_,rfl,rfl,rfl⟩) fun b hb=>?_
 ·unfold bindMap at hB
  cases hl : lkp d.bl i with
  | none=>rw [hl] at hB; cases hB
  | some j =>
   rw [hl] at hB
   have := h2 _ (lkp_mem hl)
   simp only at this
   rw [this]
   exact hB
 ·obtain ⟨a,_,a2,_⟩ := k6 b hb
  rw [k3 _ a2]
  exact congrArg ρ (h2 _ a2)
end
theorem drv_closedN : closedN 14 141 drvM = true := by decide +kernel
def ownS (ρ : Map) (x : Nat) : Prop := ∃ i B,3 ≤ i ∧ ρ i = some B ∧ B.own x
structure Drv (d : Nat) (S : Nat → Prop) (N : List Int) (w : World) : Prop where
 ex : ∃ ρ,M ObjD ρ (ofL N) drvM w ∧ (∃ B,ρ 19 = some B ∧ B.n = d) ∧ GlobOk Ctm ρ ∧ (∀ i B,ρ i = some B → ∃ b ∈ drvM,b.id = i) ∧ ∀ x,ownS ρ x → S x
 dom : InDom drvD (ofL N)
 len : N.length = 141
 low : ∀ x,S x → x < w.heap.size ∧ 3 ≤ x
def frB (fc : List Leaf) : SB := ⟨3,[],fc,none⟩
def inLs : List Leaf := [.int .i64 (.e 0),.int .i64 (.e 1),.int .i64 (.e 2),.int .i64 (.e 3),.int .i64 (.e 4),.bool (.e 5),.bool (.e 6),.bool (.e 7),.int .i64 (.e 8),.bool (.e 9),.bool (.e 10),.bool (.e 11),.bool (.e 12),.bool (.e 13)]
def inVs (E : Nat → Int) : List Value := [.int .i64 (E 0),.int .i64 (E 1),.int .i64 (E 2),.int .i64 (E 3),.int .i64 (E 4),.bool (truth (E 5)),.bool (truth (E 6)),.bool (truth (E 7)),.int .i64 (E 8),.bool (truth (E 9)),.bool (truth (E 10)),.bool (truth (E 11)),.bool (truth (E 12)),.bool (truth (E 13))]
def tickBl (L : MLit) : List (Nat × Nat) := match again drvM root29 L.after with
 | some d=>d.bl
 | none=>[]
def blOk (bl : List (Nat × Nat)) : Bool := bl.all fun x=>(drvM.any fun b=>Nat.beq b.id x.1) && decide (x.1 < 3 ↔ x.2 < 3) && (!Nat.blt x.1 3 || Nat.beq x.1 x.2)
def callOk (L : MLit) : Bool := Nat.beq L.nt 21 && blOk (tickBl L) && Nat.ble L.nt' obN && tabs3.all (fun b=>decide (b ∈ L.mem)) && tabs3.all (fun b=>decide (b ∈ L.after)) && L.sup.isEmpty
def tickArgs (L : MLit) (fl : Leaf) : Bool := decide (L.args = [.a (.one (.ptr 19 0)),.a (.agg (inLs ++ [fl]))])
noncomputable def nextF (L : MLit) (E : Nat → Int) : List Int := ((numsIn drvM 141 root29 L.after).getD []).map (Ref.val E)
theorem drv_ids : ∀ b ∈ drvM,b.cs = [] ∧ b.id < 20 ∧ (b.id < 3 → b.obj = none) := by decide +kernel
theorem drv_has : (∃ b ∈ drvM,b.id = 0) ∧ (∃ b ∈ drvM,b.id = 1) ∧ (∃ b ∈ drvM,b.id = 2) ∧ ∃ b ∈ drvM,b.id = 19 := by decide +kernel
theorem Drv.keep {d : Nat} {S : Nat → Prop} {N : List Int} {w w' : World} (h : Drv d S N w) (hs : w.heap.size ≤ w'.heap.size) (hk : ∀ x,S x ∨ x < 3 → w'.heap[x]? = w.heap[x]?) : Drv d S N w' := by
 obtain ⟨⟨ρ,hM,h19,hG,hid,hS⟩,h1,h2,h3⟩ := h
 refine ⟨⟨ρ,hM.keep hs fun i B hB x hx=>?_,h19,hG,hid,hS⟩,h1,h2,fun x hx=>⟨Nat.lt_of_lt_of_le (h3 x hx).1 hs,(h3 x hx).2⟩⟩
 by_cases hi : 3 ≤ i
 ·exact hk x (.inl (hS x ⟨i,B,hi,hB,hx⟩))
 ·obtain ⟨b,hb,e⟩ := hid i B hB
  have hlt : i < 3 := by omega
  obtain ⟨B',hB',e'⟩ := hG i i (by simp [mkCx,hlt])
  obtain ⟨B2,vs,q1,q2,q3⟩ := hM.blk b hb (by rw [(drv_ids b hb).1]; rfl)
  rw [(drv_ids b hb).2.2 (by omega)] at q3
  rw [e,hB'] at q1
  rw [hB'] at hB
  injection q1 with q1; injection hB with hB
  subst q1; subst hB
  have : x = i := by rw [← e']; exact (q3.1 x).1 hx
  exact hk x (.inr (by omega))
def frMap (ρ : Map) (B : Option Loc) : Map := fun i=>if i = 3 then B else ρ i
theorem drv_no3 : ∀ b ∈ drvM,b.id ≠ 3 := by decide +kernel
theorem frMap_ne {ρ : Map} {B : Option Loc} {i : Nat} (h : i ≠ 3) : frMap ρ B i = ρ i := by unfold frMap; rw [if_neg h]
theorem frMap_3 {ρ : Map} {B : Option Loc} : frMap ρ B 3 = B := by unfold frMap; rw [if_pos rfl]
structure FrAt (fc : List Leaf) (S : Nat → Prop) (E : Nat → Int) (w : World) (F : Loc) : Prop where
 three : 3 ≤ F.n
 low : F.n < w.heap.size
 free : ¬ S F.n
 own : ∀ x,F.own x ↔ x = F.n
 cells : ∃ t vs,w.heap[F.n]? = some (.cells (List.toArray vs) t (0,0)) ∧ F.val = tyV t ∧ vs.length = F.tot ∧ ∀ ρ : Map,sats ρ E fc vs
theorem Drv.mem {d : Nat} {S : Nat → Prop} {N : List Int} {w : World} (hD : Drv d S N w) {E : Nat → Int} (hx : ∀ j,14 ≤ j → j < 141 → E j = ofL N j) {B : Option Loc} {fc : List Leaf} (hB : ∀ F,B = some F → FrAt fc S E w F)
  {m : List SB} (hm : ∀ b ∈ m,b ∈ drvM ∨ b = frB fc ∧ ∃ F,B = some F) :
  ∃ ρ,M ObjD (frMap ρ B) E m w ∧ (∃ L,ρ 19 = some L ∧ L.n = d) ∧ GlobOk Ctm (frMap ρ B) ∧ Fresh (frMap ρ B) 21 obN ∧ (∀ i L,ρ i = some L → ∃ b ∈ drvM,b.id = i) ∧ (∀ x,ownS ρ x → S x) ∧ ∀ i L,i < 3 → ρ i = some L → ∀ x,L.own x → x < 3 := by
 obtain ⟨⟨ρ,hM,h19,hG,hid,hS⟩,hdm,hln,hlo⟩ := hD
 have hM1 : M ObjD ρ E drvM w := hM.closedN drv_closedN hx
 have h3 : ρ 3 = none := by
  cases h : ρ 3 with
  | none=>rfl
  | some L=>obtain ⟨b,hb,e⟩ := hid 3 L h; exact absurd e (drv_no3 b hb)
 have hlk : Lk ρ (frMap ρ B) := fun i L hL=>by
  have : i ≠ 3 := fun e=>by rw [e,h3] at hL; cases hL
  exact ⟨L,by rw [frMap_ne this]; exact hL,rfl,rfl,rfl⟩
 have hgl : ∀ i L,i < 3 → ρ i = some L → ∀ x,L.own x → x < 3 := fun i L hi hL x hx=>by
  obtain ⟨b,hb,e⟩ := hid i L hL
  obtain ⟨B',hB',e'⟩ := hG i i (by simp [mkCx,hi])
  obtain ⟨B2,vs,q1,q2,q3⟩ := hM.blk b hb (by rw [(drv_ids b hb).1]; rfl)
  rw [(drv_ids b hb).2.2 (by omega)] at q3
  rw [e,hL] at q1
  injection q1 with q1; subst q1
  rw [hL] at hB'
  injection hB' with hB'; subst hB'
  have := (q3.1 x).1 hx
  omega
 have hM2 : M ObjD (frMap ρ B) E drvM w := hM1.mono hlk fun b hb=>frMap_ne (drv_no3 b hb)
 have frOwn : ∀ F,B = some F → ∀ x,F.own x → x = F.n := fun F hF x hx=>by
  exact ((hB F hF).own x).1 hx
 have hapart : ∀ F,B = some F → ∀ b ∈ drvM,∀ L,frMap ρ B b.id = some L → ∀ x,L.own x → ¬ F.own x := fun F hF b hb L hL x hx hx'=>by
  have e := frOwn F hF x hx'
  have q1 := (hB F hF).three
  have q2 := (hB F hF).free
  rw [frMap_ne (drv_no3 b hb)] at hL
  by_cases hi : b.id < 3
  ·have := hgl _ L hi hL x hx
   omega
  ·exact q2 (e ▸ hS x ⟨b.id,L,by omega,hL,hx⟩)
 refine ⟨ρ,⟨fun b hb hc=>?_,fun b hb b' hb' hc hc' hne L L' hL hL' x hx hx'=>?_,fun b hb hc L hL x hx=>?_⟩,h19,fun gl id h=>?_,fun i hi _=>?_,hid,hS,hgl⟩
 ·rcases hm b hb with h | ⟨rfl,F,hF⟩
  ·exact hM2.blk b h hc
  ·have q := hB F hF
   obtain ⟨t,vs,q1,q2,q3,q4⟩ := q.cells
   exact ⟨F,vs,by rw [show (frB fc).id = 3 from rfl,frMap_3,hF],q4 _,q.own,q3,t,q1,q2⟩
 ·rcases hm b hb with h | ⟨rfl,F,hF⟩ <;> rcases hm b' hb' with h' | ⟨rfl,F',hF'⟩
  ·exact hM2.disj b h b' h' hc hc' hne L L' hL hL' x hx hx'
  ·rw [show (frB fc).id = 3 from rfl,frMap_3] at hL'
   exact hapart L' hL' b h L hL x hx hx'
  ·rw [show (frB fc).id = 3 from rfl,frMap_3] at hL
   exact hapart L hL b' h' L' hL' x hx' hx
  ·exact hne rfl
 ·rcases hm b hb with h | ⟨rfl,F,hF⟩
  ·exact hM2.low b h hc L hL x hx
  ·rw [show (frB fc).id = 3 from rfl,frMap_3] at hL
   rw [frOwn L hL x hx]
   exact (hB L hL).low
 ·have hlt : id < 3 := mkCx_glob tm16 gl id h
  obtain ⟨L,hL,e⟩ := hG gl id h
  exact ⟨L,by rw [frMap_ne (by omega)]; exact hL,e⟩
 ·rw [frMap_ne (by omega)]
  cases h : ρ i with
  | none=>rfl
  | some L=>obtain ⟨b,hb,e⟩ := hid i L h; have := (drv_ids b hb).2.1; omega
theorem Drv.call {l : List (FuncId × Ctr)} {L : MLit} {dp fuel : Nat} {f : FuncId} (H : L.Holds (mkCx l) ObjD dp fuel f) (hk : tickOk L = true) (hk2 : callOk L = true) {d : Nat} {S : Nat → Prop} {N xs : List Int} {w : World} (hD : Drv d S N w)
  (hx : ∀ j,14 ≤ j → j < 141 → ofL xs j = ofL N j) (hdom : InDom L.dom (ofL xs)) {B : Option Loc} {fc : List Leaf} (hB : ∀ F,B = some F → FrAt fc S (ofL xs) w F)
  (hm : ∀ b ∈ L.mem,b ∈ drvM ∨ b = frB fc ∧ ∃ F,B = some F) {vs : List Value} (hfv : ∀ ρ : Map,(∃ G,ρ 19 = some G ∧ G.n = d) → ρ 3 = B → satVs ρ (ofL xs) L.args vs) :
  Calls Tryz.prog f vs.toArray w fun e w'=>∃ ρ' u S',e = .returned u ∧ L.out.sat ρ' (L.ent (mkCx l) dp fuel f xs) u ∧ M ObjD ρ' (L.ent (mkCx l) dp fuel f xs) L.after w' ∧
   Drv d S' (nextF L (L.ent (mkCx l) dp fuel f xs)) w' ∧ (∀ x,S' x → S x ∨ w.heap.size ≤ x ∨ ∃ F,B = some F ∧ x = F.n) ∧ (∀ x,3 ≤ x → x < w.heap.size → ¬ S x → (∀ F,B = some F → x ≠ F.n) → w'.heap[x]? = w.heap[x]?) ∧
   (∀ b ∈ L.after,allC (L.ent (mkCx l) dp fuel f xs) b.cs = true → (∀ x ∈ tickBl L,x.2 ≠ b.id) → ∀ G,ρ' b.id = some G → ∀ x,G.own x → ¬ S' x ∧ (21 ≤ b.id → S x ∨ w.heap.size ≤ x ∨ ∃ F,B = some F ∧ x = F.n)) ∧ w.heap.size ≤ w'.heap.size ∧ Go.RowKit.Below 0 w w' ∧ ∀ T,Tabs T w → Tabs T w' := by
 obtain ⟨ρ,hM,⟨B19,h19,hd19⟩,hG,hFr,hid,hS,hgl⟩ := hD.mem hx hB hm
 unfold tickOk at hk
 simp only [Bool.and_eq_true] at hk
 obtain ⟨⟨h1,h2⟩,h3⟩ := hk
 split at h3
 rotate_left
 ·cases h3
 rename_i rs hrs
 have htf : nextF L (L.ent (mkCx l) dp fuel f xs) = rs.map (Ref.val (L.ent (mkCx l) dp fuel f xs)) := by unfold nextF; rw [hrs]; rfl
 unfold callOk at hk2
 simp only [Bool.and_eq_true,List.isEmpty_iff] at hk2
 obtain ⟨⟨⟨⟨⟨hnt,hbl⟩,hnb⟩,ht1⟩,ht2⟩,hs⟩ := hk2
 have hnt := Nat.eq_of_beq_eq_true hnt
 have hnb := Nat.le_of_ble_eq_true hnb
 have ht1 : ∀ b ∈ tabs3,b ∈ L.mem := fun b hb=>by simpa using List.all_eq_true.1 ht1 b hb
 have ht2 : ∀ b ∈ tabs3,b ∈ L.after := fun b hb=>by simpa using List.all_eq_true.1 ht2 b hb
 have hv : satVs (frMap ρ B) (ofL xs) L.args vs := hfv _ ⟨B19,by rw [frMap_ne (by decide)]; exact h19,hd19⟩ frMap_3
 refine Calls.mono (H.nums h1 h2 hs hdom hv hG hM (fun i hi hj=>hFr i (by omega) (by omega))) fun e w' he=>?_
 obtain ⟨ρ',u,e1,k1,k2,k3⟩ := he
 have hrs' := hrs
 unfold numsIn at hrs'
 split at hrs'
 rotate_left
 ·cases hrs'
 rename_i dd hdd
 split at hrs'
 rotate_left
 ·cases hrs'
 rename_i hen
 injection hrs' with hrs'
 have htb : tickBl L = dd.bl := by unfold tickBl; rw [hdd]
 rw [htb] at hbl
 have hbl' : ∀ x ∈ dd.bl,(∃ b ∈ drvM,b.id = x.1) ∧ (x.1 < 3 ↔ x.2 < 3) := fun x hx=>by
  have := List.all_eq_true.1 hbl x hx
  simp only [Bool.and_eq_true,decide_eq_true_eq,List.any_eq_true] at this
  obtain ⟨⟨⟨b,hb,e⟩,h⟩,_⟩ := this
  exact ⟨⟨b,hb,Nat.eq_of_beq_eq_true e⟩,h⟩
 have hinj : injB dd.bl = true := by
  have := hdd
  unfold again at this
  split at this
  ·split at this
   ·rename_i hc
    injection this with this
    rw [← this]
    exact (Bool.and_eq_true _ _ ▸ hc).1
   ·cases this
  ·cases this
 obtain ⟨q1,_,q3,q4,_,q6⟩ := again_ok hdd k2 (ents_ok (E := L.ent (mkCx l) dp fuel f xs) hen)
 have hof : ofL ((entsOf dd.en 141).map (Ref.val (L.ent (mkCx l) dp fuel f xs))) = ofL (nextF L (L.ent (mkCx l) dp fuel f xs)) := by rw [htf,← hrs']
 rw [hof] at q1
 generalize hρ2 : bindMap ρ' dd.bl = ρ2 at *
 have hb2 : ∀ i G,ρ2 i = some G → ∃ j,(i,j) ∈ dd.bl ∧ ρ' j = some G := fun i G hG'=>by
  rw [← hρ2] at hG'
  unfold bindMap at hG'
  cases hl : lkp dd.bl i with
  | none=>rw [hl] at hG'; cases hG'
  | some j=>rw [hl] at hG'; exact ⟨j,lkp_mem hl,hG'⟩
 have hG' : GlobOk Ctm ρ' := hG.mono k3.le
 have hG2 : GlobOk Ctm ρ2 := fun gl id h=>by
  have hlt : id < 3 := mkCx_glob l gl id h
  obtain ⟨G,g1,g2⟩ := hG' gl id h
  refine ⟨G,?_,g2⟩
  have hr : (id,id) ∈ root29.bl := by
   match id,hlt with
   | 0,_=>decide
   | 1,_=>decide
   | 2,_=>decide
  exact (q3 _ (q4 _ hr)).trans g1
 have h192 : ∃ G,ρ2 19 = some G ∧ G.n = d := by
  obtain ⟨G,g1,g2,_⟩ := k3.le 19 B19 (by rw [frMap_ne (by decide)]; exact h19)
  exact ⟨G,(q3 (19,19) (q4 _ (by decide))).trans g1,g2.trans hd19⟩
 have hlow : ∀ x,ownS ρ2 x → x < w'.heap.size ∧ 3 ≤ x := fun x ⟨i,G,hi,hGi,hx⟩=>by
  obtain ⟨j,hj,hjG⟩ := hb2 i G hGi
  obtain ⟨⟨b,hb,e⟩,_⟩ := hbl' _ hj
  simp only at e
  have hcs : allC (ofL (nextF L (L.ent (mkCx l) dp fuel f xs))) b.cs = true := by rw [(drv_ids b hb).1]; rfl
  refine ⟨q1.low b hb hcs G (by rw [e]; exact hGi) x hx,?_⟩
  by_cases h : 3 ≤ x
  ·exact h
  ·exfalso
   have hx3 : x < 3 := by omega
   obtain ⟨G0,g1,g2⟩ := hG2 x x (by simp [mkCx,hx3])
   have hbx : ∃ b ∈ drvM,b.id = x := by
    match x,hx3 with
    | 0,_=>exact drv_has.1
    | 1,_=>exact drv_has.2.1
    | 2,_=>exact drv_has.2.2.1
   obtain ⟨b0,hb0,e0⟩ := hbx
   have hcs0 : allC (ofL (nextF L (L.ent (mkCx l) dp fuel f xs))) b0.cs = true := by rw [(drv_ids b0 hb0).1]; rfl
   obtain ⟨L0,vs,r1,r2,r3⟩ := q1.blk b0 hb0 hcs0
   rw [(drv_ids b0 hb0).2.2 (by omega)] at r3
   have hL0 : L0 = G0 := by rw [e0,g1] at r1; injection r1 with r1; exact r1.symm
   subst hL0
   exact q1.disj b hb b0 hb0 hcs hcs0 (by omega) G L0 (by rw [e]; exact hGi) r1 x hx ((r3.1 x).2 g2.symm)
 refine ⟨ρ',u,ownS ρ2,e1,k1,k2,⟨⟨ρ2,q1,h192,hG2,fun i G hi=>?_,fun x h=>h⟩,?_,?_,hlow⟩,fun x hx=>?_,fun x h3x hx hSx hFx=>?_,fun b hb hc hnot G hGb x hx=>⟨fun hSx=>?_,fun h21=>?_⟩,k3.size,k3.io,fun T hT=>hT.next (l := l) hM k2 hG k3.le ht1 ht2⟩
 ·obtain ⟨j,hj,_⟩ := hb2 i G hi
  exact (hbl' _ hj).1
 ·rw [htf]; exact H.dom hdom h3
 ·rw [htf,← hrs']; simp [entsOf]
 ·have hx3 := (hlow x hx).2
  obtain ⟨i,G,hi,hGi,hxG⟩ := hx
  obtain ⟨j,hj,hjG⟩ := hb2 i G hGi
  have hj3 : 3 ≤ j := by have := (hbl' _ hj).2; simp only at this; omega
  have old : ∀ j' G',3 ≤ x → frMap ρ B j' = some G' → G'.own x → S x ∨ w.heap.size ≤ x ∨ ∃ F,B = some F ∧ x = F.n := fun j' G' hx3 hj' hx'=>by
   by_cases e3 : j' = 3
   ·subst e3
    rw [frMap_3] at hj'
    exact .inr (.inr ⟨G',hj',((hB G' hj').own x).1 hx'⟩)
   ·rw [frMap_ne e3] at hj'
    by_cases hlt : j' < 3
    ·have := hgl j' G' hlt hj' x hx'
     omega
    ·exact .inl (hS x ⟨j',G',by omega,hj',hx'⟩)
  by_cases hsame : ρ' j = frMap ρ B j
  ·exact old j G hx3 (hsame ▸ hjG) hxG
  ·rcases k3.new j G hjG hsame x hxG with h | ⟨b,hb,L0,hL0,hx0⟩
   ·exact .inr (.inl h)
   ·exact old b.id L0 hx3 hL0 hx0
 ·refine k3.keep x hx fun b hb G hG' hxG=>?_
  by_cases e3 : b.id = 3
  ·rw [e3,frMap_3] at hG'
   exact hFx G hG' (((hB G hG').own x).1 hxG)
  ·rw [frMap_ne e3] at hG'
   by_cases hlt : b.id < 3
   ·have := hgl _ G hlt hG' x hxG
    omega
   ·exact hSx (hS x ⟨_,G,by omega,hG',hxG⟩)
 ·obtain ⟨i,G2,hi,hGi,hxG⟩ := hSx
  obtain ⟨j,hj,hjG⟩ := hb2 i G2 hGi
  obtain ⟨⟨bp,hbp,ep⟩,_⟩ := hbl' _ hj
  obtain ⟨a,ha,hia,hacs⟩ := q6 bp hbp
  have hja : j = a.id := (injB_ok hinj (show (i,j) ∈ dd.bl from hj) (show (i,a.id) ∈ dd.bl by rw [show i = bp.id from ep.symm]; exact hia)).1 rfl
  exact k2.disj b hb a ha hc (by rw [hacs]; rfl) (fun e=>hnot (i,j) (htb ▸ hj) (by rw [hja]; exact e.symm)) G G2 hGb (by rw [← hja]; exact hjG) x hx hxG
 ·have h3x : 3 ≤ x := by
   by_cases h : 3 ≤ x
   ·exact h
   ·exfalso
    have hx3 : x < 3 := by omega
    obtain ⟨G0,g1,g2⟩ := hG' x x (by simp [mkCx,hx3])
    obtain ⟨L0,vs,r1,_,r3,_⟩ := k2.blk (tabB x) (ht2 _ (tabB_mem hx3)) rfl
    have hL0 : L0 = G0 := by rw [show (tabB x).id = x from rfl,g1] at r1; injection r1 with r1; exact r1.symm
    subst hL0
    exact k2.disj b hb (tabB x) (ht2 _ (tabB_mem hx3)) hc rfl (by show b.id ≠ x; omega) G L0 hGb g1 x hx ((r3 x).2 g2.symm)
  have hnone : frMap ρ B b.id = none := by
   rw [frMap_ne (by omega)]
   cases h : ρ b.id with
   | none=>rfl
   | some L0=>obtain ⟨b0,hb0,e⟩ := hid b.id L0 h; have := (drv_ids b0 hb0).2.1; omega
  rcases k3.new b.id G hGb (by rw [hGb,hnone]; simp) x hx with h | ⟨b0,hb0,L0,hL0,hx0⟩
  ·exact .inr (.inl h)
  ·by_cases e3 : b0.id = 3
   ·rw [e3,frMap_3] at hL0
    exact .inr (.inr ⟨L0,hL0,((hB L0 hL0).own x).1 hx0⟩)
   ·rw [frMap_ne e3] at hL0
    by_cases hlt : b0.id < 3
    ·have := hgl b0.id L0 hlt hL0 x hx0
     omega
    ·exact .inl (hS x ⟨b0.id,L0,by omega,hL0,hx0⟩)
theorem Drv.tick {l : List (FuncId × Ctr)} {L : MLit} (H : L.Holds (mkCx l) ObjD 20 400 29) (hk : tickOk L = true) {fl : Leaf} (hk2 : callOk L = true) (ha : tickArgs L fl = true) {d : Nat} {S : Nat → Prop} {N xs : List Int} {w : World} (hD : Drv d S N w)
  (hx : ∀ j,14 ≤ j → j < 141 → ofL xs j = ofL N j) (hdom : InDom L.dom (ofL xs)) {B : Option Loc} {fc : List Leaf} (hB : ∀ F,B = some F → FrAt fc S (ofL xs) w F)
  (hm : ∀ b ∈ L.mem,b ∈ drvM ∨ b = frB fc ∧ ∃ F,B = some F) {fv : Value} (hfv : ∀ ρ : Map,ρ 3 = B → fl.sat ρ (ofL xs) fv) :
  Calls Tryz.prog 29 #[.pointer (some ⟨d,0,none⟩),.agg (inVs (ofL xs) ++ [fv]).toArray] w fun e w'=>∃ ρ' u S',e = .returned u ∧ L.out.sat ρ' (L.ent (mkCx l) 20 400 29 xs) u ∧ M ObjD ρ' (L.ent (mkCx l) 20 400 29 xs) L.after w' ∧
   Drv d S' (nextF L (L.ent (mkCx l) 20 400 29 xs)) w' ∧ (∀ x,S' x → S x ∨ w.heap.size ≤ x ∨ ∃ F,B = some F ∧ x = F.n) ∧ (∀ x,3 ≤ x → x < w.heap.size → ¬ S x → (∀ F,B = some F → x ≠ F.n) → w'.heap[x]? = w.heap[x]?) ∧
   (∀ b ∈ L.after,allC (L.ent (mkCx l) 20 400 29 xs) b.cs = true → (∀ x ∈ tickBl L,x.2 ≠ b.id) → ∀ G,ρ' b.id = some G → ∀ x,G.own x → ¬ S' x ∧ (21 ≤ b.id → S x ∨ w.heap.size ≤ x ∨ ∃ F,B = some F ∧ x = F.n)) ∧ w.heap.size ≤ w'.heap.size ∧ Go.RowKit.Below 0 w w' ∧ ∀ T,Tabs T w → Tabs T w' :=
 hD.call H hk hk2 hx hdom hB hm (vs := [.pointer (some ⟨d,0,none⟩),.agg (inVs (ofL xs) ++ [fv]).toArray]) fun ρ hρ h3=>by
  obtain ⟨G,hG,hd⟩ := hρ
  rw [of_decide_eq_true ha]
  exact ⟨⟨G,hG,by rw [hd]⟩,⟨_,rfl,rfl,⟨rfl,rfl,rfl,rfl,rfl,rfl,rfl,rfl,rfl,rfl,rfl,rfl,rfl,rfl,hfv ρ h3,trivial⟩⟩,trivial⟩
def rsFr (L : MLit) (i : Nat) (r : Ref) : Bool := match again patD rootD L.after with
 | some dA=>match (entsOf dA.en 140)[i]? with
  | some q=>q.same r
  | none=>false
 | none=>false
theorem rsFr_ok {L : MLit} {i : Nat} {r : Ref} (h : rsFr L i r = true) (E : Nat → Int) : ofL (freshL L E) i = r.val E := by
 unfold rsFr at h
 split at h
 rotate_left
 ·cases h
 rename_i dA hdA
 split at h
 rotate_left
 ·cases h
 rename_i q hq
 have hi : i < (entsOf dA.en 140).length := (List.getElem?_eq_some_iff.1 hq).1
 unfold freshL
 rw [hdA]
 simp only
 unfold ofL
 rw [List.getD_eq_getElem?_getD,List.getElem?_append_left (by rw [List.length_map]; exact hi),List.getElem?_map,hq,Option.map_some,Option.getD_some,Ref.same_ok h]
structure FrC (L : MLit) (n : Int) : Prop where
 H : L.Holds Cfr ObjF 20 6000 fFresh
 ok : frOk L = true
 ok2 : frOk2 L = true
 ok3 : frOk3 L = true
 args : frArgs L = true
 sup : L.sup = []
 nt : L.nt = 19
 nt' : L.nt' ≤ obN
 mem : ∀ b ∈ L.mem,b ∈ L.after ∧ b.cs = [] ∧ b.obj = none ∧ b.id < 19
 cl : closedM L.k L.mem = true ∧ closedV L.k L.args = true
 tabs : ∀ b ∈ tabs3,b ∈ L.mem
 nums : rsFr L 76 (.c 0) = true ∧ rsFr L 19 (.e 4) = true ∧ 4 < L.k ∧ ((4,2,21) : Nat × Int × Int) ∈ L.dom
 give : giveR L.args L.mem L.args L.mem 19 L.k = some ((List.range L.k).map .e) ∧ ∀ x ∈ giveL L.args L.mem L.args L.mem 19,x.1 = x.2 ∧ ∃ b ∈ L.mem,b.id = x.1
theorem frc_a : FrC m28a 16384 := ⟨hold_fa,fr_a,fr2_all.1,fr3_all.1,fr_args.1,rfl,rfl,by decide +kernel,by decide +kernel,by decide +kernel,by decide +kernel,by decide +kernel,by decide +kernel⟩
theorem frc_b : FrC m28b 4096 := ⟨hold_fb,fr_b,fr2_all.2.1,fr3_all.2.1,fr_args.2.1,rfl,rfl,by decide +kernel,by decide +kernel,by decide +kernel,by decide +kernel,by decide +kernel,by decide +kernel⟩
theorem frc_c : FrC m28c 1024 := ⟨hold_fc,fr_c,fr2_all.2.2.1,fr3_all.2.2.1,fr_args.2.2.1,rfl,rfl,by decide +kernel,by decide +kernel,by decide +kernel,by decide +kernel,by decide +kernel,by decide +kernel⟩
theorem frc_d : FrC m28d 64 := ⟨hold_fd,fr_d,fr2_all.2.2.2,fr3_all.2.2.2,fr_args.2.2.2,rfl,rfl,by decide +kernel,by decide +kernel,by decide +kernel,by decide +kernel,by decide +kernel,by decide +kernel⟩
structure Cfg (L : MLit) (K : Nat → Prop) (xs : List Int) (cv : Value) (w : World) : Prop where
 ex : ∃ ρ,satVs ρ (ofL xs) L.args [cv] ∧ M ObjD ρ (ofL xs) L.mem w ∧ GlobOk Ctm ρ ∧ (∀ i,19 ≤ i → ρ i = none) ∧ (∀ i B,3 ≤ i → ρ i = some B → ∀ x,B.own x → K x) ∧ ∀ i B,ρ i = some B → ∃ b ∈ L.mem,b.id = i
 dom : InDom L.dom (ofL xs)
 len : xs.length = L.k
 low : ∀ x,K x → 3 ≤ x ∧ x < w.heap.size
theorem glob_tab {ρ : Map} {_T : Nat → TypeId} {w : World} {O : Objs} {E : Nat → Int} {m : List SB} (hG : GlobOk Ctm ρ) (hM : M O ρ E m w) (h1 : ∀ b ∈ tabs3,b ∈ m) : ∀ i B,i < 3 → ρ i = some B → ∀ x,B.own x ↔ x = i := fun i B hi hB x=>by
 obtain ⟨L,hL,hn⟩ := hG i i (by simp [mkCx,hi])
 obtain ⟨L1,vs,e1,_,e3,_⟩ := hM.blk (tabB i) (h1 _ (tabB_mem hi)) rfl
 rw [show (tabB i).id = i from rfl,hL] at e1
 injection e1 with e1
 subst e1
 rw [hL] at hB
 injection hB with hB
 subst hB
 rw [e3 x,hn]
theorem Cfg.keep {L : MLit} {K : Nat → Prop} {xs : List Int} {cv : Value} {w w' : World} (h : Cfg L K xs cv w) (ht : ∀ b ∈ tabs3,b ∈ L.mem) (hs : w.heap.size ≤ w'.heap.size) (hk : ∀ x,K x ∨ x < 3 → w'.heap[x]? = w.heap[x]?) : Cfg L K xs cv w' := by
 obtain ⟨⟨ρ,h1,h2,h3,h4,h5,h6⟩,hd,hn,hl⟩ := h
 refine ⟨⟨ρ,h1,h2.keep hs fun i B hB x hx=>?_,h3,h4,h5,h6⟩,hd,hn,fun x hx=>⟨(hl x hx).1,Nat.lt_of_lt_of_le (hl x hx).2 hs⟩⟩
 by_cases hi : 3 ≤ i
 ·exact hk x (.inl (h5 i B hi hB x hx))
 ·have := (glob_tab (_T := fun _=>0) h3 h2 ht i B (by omega) hB x).1 hx
  exact hk x (.inr (by omega))
theorem satVs_lk {ρ ρ' : Map} {E : Nat → Int} (hle : Lk ρ ρ') : ∀ {xs : List SV} {vs : List Value},satVs ρ E xs vs → satVs ρ' E xs vs
 | [],[],_=>trivial
 | [],_ :: _,h=>h.elim
 | _ :: _,[],h=>h.elim
 | x :: _,_ :: _,h=>⟨SV.mono hle x h.1,satVs_lk hle h.2⟩
theorem range_ofL (xs : List Int) : (List.range xs.length).map (Ref.val (ofL xs) ∘ Ref.e) = xs := by
 refine List.ext_getElem? fun i=>?_
 rw [List.getElem?_map]
 by_cases h : i < xs.length
 ·rw [List.getElem?_range h]
  simp only [Option.map_some,Function.comp,Ref.val,ofL]
  rw [List.getD_eq_getElem?_getD,List.getElem?_eq_getElem h]; rfl
 ·rw [List.getElem?_eq_none (by simp; omega),List.getElem?_eq_none (by omega)]; rfl
theorem freshL_len {L : MLit} (h : frOk L = true) {E : Nat → Int} : (freshL L E).length = 141 := by
 unfold frOk at h
 split at h
 ·rename_i dA dB hdA hdB
  unfold freshL
  rw [hdA]
  simp [entsOf]
 ·cases h
theorem fresh_nums {L : MLit} {n : Int} (F : FrC L n) {xs : List Int} (hd : InDom L.dom (ofL xs)) : ofL (freshL L (L.ent Cfr 20 6000 fFresh xs)) 76 = 0 ∧ ofL (freshL L (L.ent Cfr 20 6000 fFresh xs)) 19 = ofL xs 4 ∧ 2 ≤ ofL xs 4 ∧ ofL xs 4 ≤ 21 := by
 have h1 := rsFr_ok F.nums.1 (L.ent Cfr 20 6000 fFresh xs)
 have h2 := rsFr_ok F.nums.2.1 (L.ent Cfr 20 6000 fFresh xs)
 have h3 := hd _ F.nums.2.2.2
 exact ⟨h1,h2.trans (F.H.inp xs hd 4 F.nums.2.2.1),h3.1,h3.2⟩
theorem Cfg.fresh {L : MLit} {n : Int} (F : FrC L n) {K : Nat → Prop} {xs : List Int} {cv : Value} {w : World} (h : Cfg L K xs cv w) {T : Nat → TypeId} (hT : Tabs T w) :
  Calls Tryz.prog fFresh #[cv] w fun e w'=>∃ d fl S,e = .returned (.tuple #[.pointer (some ⟨d,0,none⟩),.pointer (some ⟨fl,0,none⟩),.bool true]) ∧ Drv d S (freshL L (L.ent Cfr 20 6000 fFresh xs)) w' ∧ Cfg L K xs cv w' ∧ Tabs T w' ∧
   (∀ x,S x → w.heap.size ≤ x) ∧ (∀ x,x < w.heap.size → ¬ K x → w'.heap[x]? = w.heap[x]?) ∧ w.heap.size ≤ w'.heap.size ∧ Go.RowKit.Below 0 w w' := by
 obtain ⟨⟨ρ,h1,h2,h3,h4,h5,h6⟩,hd,hlen,hl⟩ := h
 have hg3 := glob_tab (_T := T) h3 h2 F.tabs
 have hF : Fresh ρ L.nt L.nt' := fun i hi _=>h4 i (by rw [F.nt] at hi; exact hi)
 refine Calls.mono (fresh_run F.H F.ok F.ok2 F.ok3 F.args F.sup hd (vs := [cv]) h1 h3 h2 hF) fun e w' he=>?_
 obtain ⟨D,G,ρ',e1,k1,k2,k3,ρ2,q1,q2,q3,q4⟩ := he
 have hE : ∀ j,j < L.k → ofL xs j = L.ent Cfr 20 6000 fFresh xs j := fun j hj=>(F.H.inp xs hd j hj).symm
 have hMc0 : M ObjF ρ' (ofL xs) L.mem w' := M.closed F.cl.1 ⟨fun b hb hc=>k3.blk b (F.mem b hb).1 (by rw [(F.mem b hb).2.1]; rfl),fun b hb b' hb' _ _=>k3.disj b (F.mem b hb).1 b' (F.mem b' hb').1 (by rw [(F.mem b hb).2.1]; rfl) (by rw [(F.mem b' hb').2.1]; rfl),
  fun b hb _=>k3.low b (F.mem b hb).1 (by rw [(F.mem b hb).2.1]; rfl)⟩ hE
 have hT' : Tabs T w' := hT.next (l := tm16) h2 hMc0 h3 k2.le F.tabs F.tabs
 have hG' : GlobOk Ctm ρ' := h3.mono k2.le
 have inρ : ∀ b ∈ L.mem,∃ B,ρ b.id = some B := fun b hb=>by
  obtain ⟨B,_,hB,_⟩ := h2.blk b hb (by rw [(F.mem b hb).2.1]; rfl)
  exact ⟨B,hB⟩
 have plainOwn : ∀ b ∈ L.mem,∀ B,ρ b.id = some B → ∀ x,B.own x ↔ x = B.n := fun b hb B hB x=>by
  obtain ⟨B1,_,e1,_,e3⟩ := h2.blk b hb (by rw [(F.mem b hb).2.1]; rfl)
  rw [(F.mem b hb).2.2.1] at e3
  rw [hB] at e1; injection e1 with e1; subst e1
  exact e3.1 x
 have plainOwn' : ∀ b ∈ L.mem,∀ B,ρ' b.id = some B → ∀ x,B.own x ↔ x = B.n := fun b hb B hB x=>by
  obtain ⟨B1,_,e1,_,e3⟩ := hMc0.blk b hb (by rw [(F.mem b hb).2.1]; rfl)
  rw [(F.mem b hb).2.2.1] at e3
  rw [hB] at e1; injection e1 with e1; subst e1
  exact e3.1 x
 have likeOwn : ∀ b ∈ L.mem,∀ B B',ρ b.id = some B → ρ' b.id = some B' → ∀ x,B'.own x ↔ B.own x := fun b hb B B' hB hB' x=>by
  obtain ⟨B1,e1,e2,_⟩ := k2.le _ B hB
  rw [hB'] at e1; injection e1 with e1; subst e1
  rw [plainOwn b hb B hB,plainOwn' b hb B' hB',e2]
 obtain ⟨ρf,g1,g2,_,g4,g5,g6,_⟩ := give_ok (l := tm16) F.give.1 hMc0 (satVs_lk k2.le h1) hG'
 have hxs : ((List.range L.k).map Ref.e).map (Ref.val (ofL xs)) = xs := by
  rw [List.map_map,← hlen]
  exact range_ofL xs
 rw [hxs] at g1 g2
 have hnew : ∀ x,ownS ρ2 x → w.heap.size ≤ x := fun x ⟨i,B,hi,hB,hx⟩=>by
  obtain ⟨a,ha,ha19,hacs,G2,hG2,hx2⟩ := (q4 i B hB).2 hi x hx
  rcases k2.new a.id G2 hG2 (by rw [hG2,h4 a.id ha19]; simp) x hx2 with h | ⟨b,hb,L0,hL0,hx0⟩
  ·exact h
  ·exfalso
   obtain ⟨L1,e1,_⟩ := k2.le _ L0 hL0
   exact k3.disj a ha b (F.mem b hb).1 (by rw [hacs]; rfl) (by rw [(F.mem b hb).2.1]; rfl) (by have := (F.mem b hb).2.2.2; omega) G2 L1 hG2 e1 x hx2 ((likeOwn b hb L0 L1 hL0 e1 x).2 hx0)
 have hsz := k2.size
 refine ⟨D.n,G.n,ownS ρ2,e1,⟨⟨ρ2,q1,⟨D,q2,rfl⟩,fun gl id h=>?_,fun i B hB=>(q4 i B hB).1,fun x h=>h⟩,k1,freshL_len F.ok,fun x hx=>⟨?_,?_⟩⟩,⟨⟨ρf,g1,M.plainO (fun b hb=>(F.mem b hb).2.2.1) g2,g4,g5,fun i B hi hB x hx=>?_,fun i B hB=>?_⟩,hd,hlen,fun x hx=>⟨(hl x hx).1,Nat.lt_of_lt_of_le (hl x hx).2 hsz⟩⟩,hT',hnew,fun x hx hK=>?_,hsz,k2.io⟩
 ·have hlt : id < 3 := mkCx_glob tm16 gl id h
  obtain ⟨B,hB,e⟩ := hG' gl id h
  have hr : (id,id) ∈ rootD.bl := by
   match id,hlt with
   | 0,_=>decide
   | 1,_=>decide
   | 2,_=>decide
  exact ⟨B,(q3 _ hr).trans hB,e⟩
 ·obtain ⟨i,B,hi,hB,hxB⟩ := hx
  obtain ⟨b,hb,e⟩ := (q4 i B hB).1
  exact q1.low b hb (by rw [(drv_ids b hb).1]; rfl) B (by rw [e]; exact hB) x hxB
 ·have := hnew x hx
  have := hT.size
  omega
 ·obtain ⟨j,hj,hjB⟩ := g6 i B hB
  obtain ⟨e,b,hb,eb⟩ := F.give.2 _ hj
  simp only at e eb
  obtain ⟨B0,hB0⟩ := inρ b hb
  rw [← e,← eb] at hjB
  exact h5 b.id B0 (by omega) hB0 x ((likeOwn b hb B0 B hB0 hjB x).1 hx)
 ·obtain ⟨j,hj,_⟩ := g6 i B hB
  exact (F.give.2 _ hj).2
 ·by_cases h3x : x < 3
  ·rw [hT.at_ x h3x,hT'.at_ x h3x]
  ·refine k2.keep x hx fun b hb L0 hL0 hx0=>?_
   by_cases hb3 : b.id < 3
   ·have := (hg3 b.id L0 hb3 hL0 x).1 hx0
    omega
   ·exact hK (h5 b.id L0 (by omega) hL0 x hx0)
def cfT (n : Int) : List (Nat × Int) := [(16,n)]
def cfR (L : MLit) (n : Int) : Option (List Ref) := giveR L.args L.mem [litA (cfT n) m19.out] (m19.after.map (litB (cfT n))) 19 L.k
def cfL (L : MLit) (n : Int) : List (Nat × Nat) := giveL L.args L.mem [litA (cfT n) m19.out] (m19.after.map (litB (cfT n))) 19
def cfOk (L : MLit) (n : Int) : Bool := match cfR L n with
 | some rs=>domOk L.dom rs m19.k m19.dom m19.iva && Nat.beq rs.length L.k && (cfL L n).all (fun x=>(L.mem.any fun b=>Nat.beq b.id x.1) && decide (x.1 < 3 ↔ x.2 < 3) && m19.after.any fun b=>Nat.beq b.id x.2 && b.cs.isEmpty)
 | none=>false
theorem cfOk_all : cfOk m28a 16384 = true ∧ cfOk m28b 4096 = true ∧ cfOk m28c 1024 = true ∧ cfOk m28d 64 = true := by decide +kernel
theorem cf_tabs : tabs3.all (fun b=>decide (b ∈ m19.after)) = true := by decide +kernel
theorem cf_counts : m19.defAt (mkCx tb60) 20 6000 19 [(16,fun D=>match D with | .sel xs _=>decide (xs = [.c 16384,.c 4096,.c 1024,.c 64]) | _=>false)] = true := by decide +kernel
theorem cf_iv : lookIv m19.iva 16 = (64,16384) := by decide +kernel
def cfArgs (L : MLit) (n : Int) : Bool := match L.args with
 | [.a (.agg ls)]=>decide (ls.length = 73) && decide (ls[0]? = some (.int .i64 (.e 0))) && decide (ls[2]? = some (.int .i64 (.e 1))) && decide (ls[3]? = some (.int .i64 (.c n))) && decide (ls[4]? = some (.int .i64 (.c 2))) && decide (ls[72]? = some (.int .i64 (.e 4))) &&
   ls.all fun l=>match l with
    | .int _ _=>true
    | .sla _ _ _=>true
    | _=>false
 | _=>false
theorem cfArgs_all : cfArgs m28a 16384 = true ∧ cfArgs m28b 4096 = true ∧ cfArgs m28c 1024 = true ∧ cfArgs m28d 64 = true := by decide +kernel
structure CfgCells (n : Int) (xs : List Int) (cs : List Value) : Prop where
 size : cs.length = 73
 period : cs[0]? = some (.int .i64 (ofL xs 0))
 dead : cs[2]? = some (.int .i64 (ofL xs 1))
 counts : cs[3]? = some (.int .i64 n)
 pairs : cs[4]? = some (.int .i64 2)
 timeout : cs[72]? = some (.int .i64 (ofL xs 4))
 plain : ∀ v ∈ cs,(∀ l,v ≠ .agg l) ∧ ∀ l,v ≠ .tuple l
theorem cells_cfg {L : MLit} {n : Int} (h : cfArgs L n = true) {ρ : Map} {xs : List Int} {cv : Value} (hv : satVs ρ (ofL xs) L.args [cv]) : ∃ cs : List Value,cv = .agg cs.toArray ∧ CfgCells n xs cs := by
 unfold cfArgs at h
 split at h
 rotate_left
 ·cases h
 rename_i ls hls
 rw [hls] at hv
 simp only [Bool.and_eq_true,decide_eq_true_eq] at h
 obtain ⟨⟨⟨⟨⟨⟨h0,h1⟩,h2⟩,h3⟩,h4⟩,h5⟩,h6⟩ := h
 obtain ⟨⟨cs,rfl,hl,hs⟩,_⟩ := hv
 have at_ : ∀ {i : Nat} {l : Leaf},ls[i]? = some l → ∃ v,cs[i]? = some v ∧ l.sat ρ (ofL xs) v := fun {i l} h=>sats_iff.1 hs i l h
 have one : ∀ {i : Nat} {r : Ref},ls[i]? = some (.int .i64 r) → cs[i]? = some (.int .i64 (r.val (ofL xs))) := fun {i r} h=>by
  obtain ⟨v,h1,h2⟩ := at_ h
  rw [h1,show v = _ from h2]
 refine ⟨cs,rfl,by omega,one h1,one h2,one h3,one h4,one h5,fun v hv=>?_⟩
 obtain ⟨i,hi,rfl⟩ := List.getElem_of_mem hv
 have hi' : i < ls.length := by omega
 obtain ⟨v,e1,e2⟩ := at_ (List.getElem?_eq_getElem hi')
 rw [List.getElem?_eq_getElem hi] at e1
 injection e1 with e1
 rw [e1]
 have := List.all_eq_true.1 h6 _ (List.getElem_mem hi')
 split at this
 ·rename_i k r hk
  rw [hk] at e2
  rw [show v = _ from e2]
  exact ⟨fun _ h=>(by cases h),fun _ h=>(by cases h)⟩
 ·rename_i a b c hk
  rw [hk] at e2
  obtain ⟨_,_,_,_,e⟩ := e2
  rw [e]
  exact ⟨fun _ h=>(by cases h),fun _ h=>(by cases h)⟩
 ·cases this
theorem conf_case {L : MLit} {n : Int} (F : FrC L n) (hc : cfOk L n = true) (ha : cfArgs L n = true) {E : Nat → Int} {ρ' : Map} {w w' : World} {cv : Value} (hn : E 16 = n) (hM : M ObjD ρ' E m19.after w') (hv : m19.out.sat ρ' E cv) (hG : GlobOk (mkCx tm16) ρ')
  (hdom : ∀ dom rs,domOk dom rs m19.k m19.dom m19.iva = true → InDom dom (ofL (rs.map (Ref.val E)))) (hnew : ∀ b ∈ m19.after,3 ≤ b.id → allC E b.cs = true → ∀ G,ρ' b.id = some G → ∀ x,G.own x → w.heap.size ≤ x) (hw : 3 ≤ w.heap.size) :
  ∃ K xs cs,cv = .agg (List.toArray cs) ∧ Cfg L K xs cv w' ∧ CfgCells n xs cs ∧ ∀ x,K x → w.heap.size ≤ x := by
 unfold cfOk at hc
 split at hc
 rotate_left
 ·cases hc
 rename_i rs hrs
 simp only [Bool.and_eq_true] at hc
 obtain ⟨⟨c1,c2⟩,c3⟩ := hc
 have hkn : ∀ p ∈ cfT n,E p.1 = p.2 := fun p hp=>by
  obtain rfl : p = (16,n) := by simpa [cfT] using hp
  exact hn
 have hlb : ∀ x ∈ cfL L n,(∃ b ∈ L.mem,b.id = x.1) ∧ (x.1 < 3 ↔ x.2 < 3) ∧ ∃ b ∈ m19.after,b.id = x.2 ∧ b.cs = [] := fun x hx=>by
  have := List.all_eq_true.1 c3 x hx
  simp only [Bool.and_eq_true,decide_eq_true_eq,List.any_eq_true,List.isEmpty_iff] at this
  obtain ⟨⟨⟨b,hb,e⟩,h⟩,⟨b',hb',e',hcs⟩⟩ := this
  exact ⟨⟨b,hb,Nat.eq_of_beq_eq_true e⟩,h,b',hb',Nat.eq_of_beq_eq_true e',hcs⟩
 obtain ⟨ρf,g1,g2,g3,g4,g5,g6,_⟩ := give_ok (l := tm16) hrs (M.lit hkn hM) (vs := [cv]) ⟨litA_ok hkn hv,trivial⟩ hG
 obtain ⟨cs,e,hcs⟩ := cells_cfg ha g1
 have hown : ∀ x,ownS ρf x → w.heap.size ≤ x := fun x ⟨i,B,hi,hB,hx⟩=>by
  obtain ⟨j,hj,hjB⟩ := g6 i B hB
  obtain ⟨_,q2,b,hb,q3,q4⟩ := hlb _ hj
  simp only at q2 q3
  exact hnew b hb (by omega) (by rw [q4]; rfl) B (by rw [q3]; exact hjB) x hx
 refine ⟨ownS ρf,rs.map (Ref.val E),cs,e,⟨⟨ρf,g1,g2,g4,g5,fun i B hi hB x hx=>⟨i,B,hi,hB,hx⟩,fun i B hB=>?_⟩,hdom _ _ c1,by rw [List.length_map]; exact Nat.eq_of_beq_eq_true c2,fun x hx=>?_⟩,hcs,hown⟩
 ·obtain ⟨j,hj,_⟩ := g6 i B hB
  exact (hlb _ hj).1
 ·refine ⟨by have := hown x hx; omega,?_⟩
  obtain ⟨i,B,hi,hB,hxB⟩ := hx
  obtain ⟨j,hj,_⟩ := g6 i B hB
  obtain ⟨b,hb,e⟩ := (hlb _ hj).1
  simp only at e
  exact g2.low b hb (by rw [(F.mem b hb).2.1]; rfl) B (by rw [e]; exact hB) x hxB
theorem cf_closed : closedV m19.k m19.args = true := by decide +kernel
theorem config_walk {T : Nat → TypeId} {w : World} (hT : Tabs T w) (a b c d e : Int) (ha : 0 ≤ a ∧ a ≤ 255) (hb : 0 ≤ b ∧ b ≤ 255) (hc : 0 ≤ c ∧ c ≤ 255) (hd : 0 ≤ d ∧ d ≤ 255) (he : 0 ≤ e ∧ e ≤ 65535) :
  Calls Tryz.prog 19 #[.agg #[.int .u8 a,.int .u8 b,.int .u8 c,.int .u8 d,.int .u16 e]] w fun x w'=>∃ L n K xs cs,x = .returned (.agg (List.toArray cs)) ∧ FrC L n ∧ (n = 16384 ∨ n = 4096 ∨ n = 1024 ∨ n = 64) ∧ Cfg L K xs (.agg (List.toArray cs)) w' ∧ CfgCells n xs cs ∧
   (∀ x,K x → w.heap.size ≤ x) ∧ Quiet w w' ∧ Tabs T w' := by
 have hdm : InDom m19.dom (ofL [a,b,c,d,e]) := fun p hp=>by
  have hp : p ∈ [((0 : Nat),(0 : Int),(255 : Int)),(1,0,255),(2,0,255),(3,0,255),(4,0,65535)] := hp
  simp only [List.mem_cons,List.not_mem_nil,or_false] at hp
  rcases hp with rfl | rfl | rfl | rfl | rfl
  ·exact ha
  ·exact hb
  ·exact hc
  ·exact hd
  ·exact he
 have H := hold_m19 ObjD
 have hE : ∀ j,j < m19.k → m19.ent (mkCx tb60) 20 6000 19 [a,b,c,d,e] j = ofL [a,b,c,d,e] j := fun j hj=>H.inp _ hdm j hj
 have hv0 : satVs (tabMap T) (ofL [a,b,c,d,e]) m19.args [.agg #[.int .u8 a,.int .u8 b,.int .u8 c,.int .u8 d,.int .u16 e]] := ⟨⟨_,rfl,rfl,⟨rfl,rfl,rfl,rfl,rfl,trivial⟩⟩,trivial⟩
 have hv := satVs_closed cf_closed hv0 hE
 refine Calls.mono (H.tabs (T := T) (ρ := tabMap T) rfl rfl cf_tabs rfl hdm hT (fun _ _=>rfl) (fun i hi _=>by unfold tabMap; rw [if_neg (by omega)]) hv) fun x w' hx=>?_
 obtain ⟨ρ',u,e1,k1,k2,k3,k4,k5,k6⟩ := hx
 have hdom := fun dom rs (h : domOk dom rs m19.k m19.dom m19.iva = true)=>H.dom hdm h
 obtain ⟨D,hD,hent⟩ := MLit.defAt_ok cf_counts [a,b,c,d,e] _ List.mem_cons_self
 have hiv := H.iv _ hdm 16
 rw [cf_iv] at hiv
 have hG : GlobOk (mkCx tm16) ρ' := (tabMap_glob (T := T) (l := tm16) fun _ _=>rfl).mono k5
 generalize m19.ent (mkCx tb60) 20 6000 19 [a,b,c,d,e] = E at *
 have h4 : E 16 = 16384 ∨ E 16 = 4096 ∨ E 16 = 1024 ∨ E 16 = 64 := by
  simp only at hD hent
  split at hD
  ·rename_i xs r
   rw [of_decide_eq_true hD,Df.den] at hent
   match hi : (r.val E).toNat with
   | 0=>rw [hi] at hent; exact .inl hent
   | 1=>rw [hi] at hent; exact .inr (.inl hent)
   | 2=>rw [hi] at hent; exact .inr (.inr (.inl hent))
   | 3=>rw [hi] at hent; exact .inr (.inr (.inr hent))
   | j + 4 =>
    rw [hi] at hent
    have h0 : E 16 = 0 := hent
    rw [h0] at hiv
    exact absurd hiv (by decide)
  ·cases hD
 have fin : ∀ {L : MLit} {n : Int},FrC L n → cfOk L n = true → cfArgs L n = true → (n = 16384 ∨ n = 4096 ∨ n = 1024 ∨ n = 64) → E 16 = n → ∃ L n K xs cs,x = .returned (.agg (List.toArray cs)) ∧ FrC L n ∧ (n = 16384 ∨ n = 4096 ∨ n = 1024 ∨ n = 64) ∧ Cfg L K xs (.agg (List.toArray cs)) w' ∧ CfgCells n xs cs ∧
   (∀ x,K x → w.heap.size ≤ x) ∧ Quiet w w' ∧ Tabs T w' := fun {L n} F h1 h2 h3 h4=>by
  obtain ⟨K,xs,cs,q1,q2,q3,q4⟩ := conf_case F h1 h2 h4 k2 k1 hG hdom k6 hT.size
  subst q1
  exact ⟨L,n,K,xs,cs,e1,F,h3,q2,q3,q4,k3,k4⟩
 rcases h4 with h | h | h | h
 ·exact fin frc_a cfOk_all.1 cfArgs_all.1 (.inl rfl) h
 ·exact fin frc_b cfOk_all.2.1 cfArgs_all.2.1 (.inr (.inl rfl)) h
 ·exact fin frc_c cfOk_all.2.2.1 cfArgs_all.2.2.1 (.inr (.inr (.inl rfl))) h
 ·exact fin frc_d cfOk_all.2.2.2 cfArgs_all.2.2.2 (.inr (.inr (.inr rfl))) h
def dv33 : MLit :=
 {args := [.a (.one (.ptr 19 0))],
  mem := drvM,
  nt := 21,k := 141,
  dom := drvD,
  out := .a (.agg [iE 20,iE 79,iE 63,bE 80,iE 72,iE 141,iE 73,iE 74,iE 90,iE 91,iE 92,iE 78,iE 77,iE 93,iE 94,iE 95,iE 96,iE 97,iE 98,bE 42,bE 43,bE 44,iE 81,iE 82,.sla 22 0 4]),
  nw := [⟨22,[],[iE 142,iE 143,iE 144,iE 145],none⟩],
  dif := [],
  gone := [],nt' := 23,
  ivs := [(142,0,4096),(143,0,1048576),(144,0,1048576),(145,0,6000),(141,-140737488355328,140737488355327)],gl := [0,1,2],fx := [],mg := [],mo := [] }
def dv31 : MLit :=
 {args := [.a (.one (.ptr 19 0))],
  mem := drvM,
  nt := 21,k := 141,
  dom := drvD,
  out := .a (.agg [.slu 24 0 11 1,.slu 26 0 11 1,iE 63,iE 64,.opl 27 (.e 65)]),
  nw := [⟨27,[],[],some 1002⟩,⟨26,[],[bE 123,bE 124,bE 125,bE 126,bE 127,bE 128,bE 129,bE 130,bE 131,bE 132,bE 133],none⟩,⟨24,[],[bE 112,bE 113,bE 114,bE 115,bE 116,bE 117,bE 118,bE 119,bE 120,bE 121,bE 122],none⟩],
  dif := [],
  gone := [],nt' := 28,
  ivs := [],gl := [0,1,2],fx := [],mg := [],mo := [] }
theorem dv31_check : dv31.check (mkCx tm0) 20 400 31 = true := by decide +kernel
theorem hold_dv31 : dv31.Holds (mkCx tm0) ObjD 20 400 31 := MLit.holds (C := mkCx tm0) cx_mix cx_name tm0_ok dv31_check
theorem dv_ok : tickOk dv33 = true ∧ callOk dv33 = true ∧ tickOk dv31 = true ∧ callOk dv31 = true := by decide +kernel
theorem drv_dom : ∀ p ∈ drvD,p.1 < 141 := by decide +kernel
theorem dv31_act : (⟨24,[],(List.range 11).map fun i=>.bool (.e (112 + i)),none⟩ : SB) ∈ dv31.after := by decide +kernel
theorem dv31_free : ∀ x ∈ tickBl dv31,x.2 ≠ 24 := by decide +kernel
theorem Drv.nums {d : Nat} {S : Nat → Prop} {N N' : List Int} {w : World} (h : Drv d S N w) (he : ∀ j,14 ≤ j → j < 141 → ofL N' j = ofL N j) (hl : N'.length = 141) : Drv d S N' w := by
 obtain ⟨⟨ρ,hM,h1⟩,h2,_,h3⟩ := h
 refine ⟨⟨ρ,hM.closedN drv_closedN he,h1⟩,fun p hp=>?_,hl,h3⟩
 have hp14 : 14 ≤ p.1 := by
  have := (List.mem_filter.1 hp).2
  exact Nat.le_of_ble_eq_true this
 have hp141 : p.1 < 141 := drv_dom p hp
 rw [he _ hp14 hp141]
 exact h2 p hp
def stayRs (L : MLit) : Bool := match numsIn drvM 141 root29 L.after with
 | some rs=>Nat.beq rs.length 141 && (List.range 141).all fun j=>Nat.blt j 14 || match rs[j]? with
  | some r=>r.same (.e j)
  | none=>false
 | none=>false
theorem stay_dv : stayRs dv33 = true ∧ stayRs dv31 = true := by decide +kernel
theorem stay_ok {L : MLit} (h : stayRs L = true) {E : Nat → Int} {N : List Int} (hE : ∀ j,14 ≤ j → j < 141 → E j = ofL N j) : ∀ j,14 ≤ j → j < 141 → ofL N j = ofL (nextF L E) j := fun j h1 h2=>by
 unfold stayRs at h
 split at h
 rotate_left
 ·cases h
 rename_i rs hrs
 rw [Bool.and_eq_true] at h
 have := List.all_eq_true.1 h.2 j (by simpa using h2)
 rw [Bool.or_eq_true] at this
 rcases this with h | h
 ·rw [Nat.blt_eq] at h; omega
 ·split at h
  ·rename_i r hr
   unfold nextF
   rw [hrs,Option.getD_some,ofL_map,List.getD_eq_getElem?_getD,hr,Option.getD_some,Ref.same_ok h]
   exact (hE j h1 h2).symm
  ·cases h
theorem Drv.faults {d : Nat} {S : Nat → Prop} {N : List Int} {w : World} (hD : Drv d S N w) {T : Nat → TypeId} (hT : Tabs T w) :
  Calls Tryz.prog 31 #[.pointer (some ⟨d,0,none⟩)] w fun e w'=>∃ A c X cx Y ny cy S',e = .returned (.agg #[.slice (some ⟨A,0,none⟩) 11 c,.slice X 11 cx,.int .i64 (ofL N 63),.int .i64 (ofL N 64),.slice Y ny cy]) ∧ 11 ≤ c ∧ A < w'.heap.size ∧
   (∀ i,i < 11 → w'.cell? ⟨A,i,none⟩ = some (.bool (truth (ofL N (112 + i))))) ∧ Drv d S' N w' ∧ ¬ S' A ∧ Tabs T w' ∧
   (∀ x,S' x → S x ∨ w.heap.size ≤ x) ∧ (∀ x,x < w.heap.size → ¬ S x → w'.heap[x]? = w.heap[x]?) ∧ w.heap.size ≤ w'.heap.size ∧ Go.RowKit.Below 0 w w' := by
 refine Calls.mono (hD.call hold_dv31 dv_ok.2.2.1 dv_ok.2.2.2 (fun _ _ _=>rfl) hD.dom (B := none) (fc := []) (fun _ h=>by cases h) (fun b hb=>.inl hb) (vs := [.pointer (some ⟨d,0,none⟩)]) fun ρ ⟨G,hG,hd⟩ _=>⟨⟨G,hG,by rw [hd]⟩,trivial⟩) fun e w' he=>?_
 obtain ⟨ρ',u,S',e1,k1,k2,k3,k4,k5,k6,k7,k8,k9⟩ := he
 have hE : ∀ j,j < 141 → dv31.ent (mkCx tm0) 20 400 31 N j = ofL N j := fun j hj=>hold_dv31.inp N hD.dom j hj
 generalize dv31.ent (mkCx tm0) 20 400 31 N = E at *
 have k3 := k3.nums (N' := N) (stay_ok stay_dv.2 (fun j _ hj=>hE j hj)) hD.len
 have hT' := k9 T hT
 obtain ⟨cs,rfl,hl,hs⟩ := k1
 match cs,hl,hs with
 | [v0,v1,v2,v3,v4],_,⟨s0,s1,s2,s3,s4,_⟩ =>
  obtain ⟨LA,cA,a1,a2,a3,rfl⟩ := s0
  obtain ⟨LX,cX,_,_,_,rfl⟩ := s1
  obtain ⟨_,_,_,aY,nY,cY,rfl,_⟩ := s4
  have e2 : v2 = .int .i64 (ofL N 63) := by rw [← hE 63 (by decide)]; exact s2
  have e3 : v3 = .int .i64 (ofL N 64) := by rw [← hE 64 (by decide)]; exact s3
  subst e2; subst e3
  obtain ⟨LB,vs,b1,b2,b3⟩ := k2.blk _ dv31_act rfl
  rw [show ρ' 24 = some LA from a1] at b1
  injection b1 with b1
  subst b1
  obtain ⟨b3,b4,t,b5,_⟩ := b3
  have hfree : ¬ S' LA.n := (k6 _ dv31_act rfl dv31_free LA a1 LA.n ((b3 _).2 rfl)).1
  refine ⟨LA.n,cA,_,cX,aY,nY,cY,S',e1,a3,k2.low _ dv31_act rfl LA a1 LA.n ((b3 _).2 rfl),fun i hi=>?_,k3,hfree,hT',fun x hx=>?_,fun x hx hSx=>?_,k7,k8⟩
  ·obtain ⟨v,hv,hs⟩ := sats_iff.1 b2 i (.bool (.e (112 + i))) (by rw [List.getElem?_map,List.getElem?_range hi]; rfl)
   rw [cell_at b5 i,hv,show v = .bool (truth _) from hs,show Ref.val _ (.e (112 + i)) = _ from hE (112 + i) (by omega)]
  ·rcases k4 x hx with h | h | ⟨F,h,_⟩
   ·exact .inl h
   ·exact .inr h
   ·cases h
  ·by_cases h3 : x < 3
   ·rw [hT.at_ x h3,hT'.at_ x h3]
   ·exact k5 x (by omega) hx hSx (fun F h=>by cases h)
noncomputable def tq1 : List (FuncId × Ctr) := (100,(m100.ms (mkCx tm11) 20 400 100).ctr) :: tm10
noncomputable def tq2 : List (FuncId × Ctr) := (101,(m101.ms (mkCx tm12) 20 400 101).ctr) :: tq1
noncomputable def tq3 : List (FuncId × Ctr) := (102,(m102.ms (mkCx tm13) 20 400 102).ctr) :: tq2
noncomputable def tq4 : List (FuncId × Ctr) := (104,(m104.ms (mkCx tm14) 20 400 104).ctr) :: tq3
theorem ctr_any {l : List (FuncId × Ctr)} (l' : List (FuncId × Ctr)) {f : FuncId} {c : Ctr} (h : ∀ I X E,CtrOk (mkCx l) ObjD I X E f c) : ∀ I X E,CtrOk (mkCx l') ObjD I X E f c := fun I X E=>h I X E
theorem tq1_ok : TmOk tq1 := tm_cons tm10_ok (ctr_any tm10 (tm_lit tm11_ok m100_check))
theorem tq2_ok : TmOk tq2 := tm_cons tq1_ok (ctr_any tq1 (tm_lit tm12_ok m101_check))
theorem tq3_ok : TmOk tq3 := tm_cons tq2_ok (ctr_any tq2 (tm_lit tm13_ok m102_check))
theorem tq4_ok : TmOk tq4 := tm_cons tq3_ok (ctr_any tq3 (tm_lit tm14_ok m104_check))
def fcL : List Leaf := [0,7,15,0,0,0,0,0,0,128].map fun n=>.int .u8 (.c n)
def frM : List SB := drvM.take 16 ++ frB fcL :: tabs3
def m29p : MLit :=
 {m29n with
   out := .tup [.agg [iE 536,bE 537,bE 538,bE 539,bE 540,bE 541,bE 542,.mix (.e 543) (.opq 202) (.nilS),bE 352,bE 353,.mix (.e 569) (.slc 230 0 14 14) (.nilS)],.one (.nilI)],
   nw := [⟨230,[(.e 568,true)],[uE 555,.int .u8 (.c (11)),uE 556,uE 557,uE 558,uE 559,uE 560,uE 561,uE 562,uE 563,uE 564,uE 565,uE 566,uE 567],none⟩,⟨202,[],[iE 519],some 3⟩,⟨156,[],[iE 455,iE 456],none⟩,⟨155,[],[iE 457,iE 458,iE 459,iE 460],none⟩,⟨108,[],[],some 1002⟩,⟨58,[],[bE 376,bE 377,bE 378,bE 379,bE 380,bE 381,bE 382,bE 383,bE 384,bE 385,bE 386],none⟩,⟨56,[],[bE 355,bE 235,bE 361,bE 320,bE 321,bE 322,bE 323,bE 362,bE 367,bE 13,bE 369],none⟩],
   dif := [(19,(sq32 ++ [(102,iE 316),(103,iE 317),(104,iE 318),(105,iE 319),(106,bE 320),(107,bE 321),(108,bE 322),(109,bE 323),(110,iE 348),(111,iE 349),(112,iE 350),(113,iE 351),(114,bE 352),(115,bE 353),(116,bE 354),(117,.slu 56 0 11 1),(118,.slu 58 0 11 1),(119,iE 387),(120,iE 388),(121,.opl 108 (.e 389)),(122,iE 520),(123,iE 521),(124,iE 522),(125,iE 523),(126,iE 524),(127,iE 525),(128,iE 261),(129,iE 275),(130,iE 276),(132,iE 279),(135,iE 399),(136,bE 400),(137,iE 324),(138,iE 325),(139,iE 526),(140,iE 527),(141,iE 463),(144,.sla 155 0 4),(145,.sla 156 0 2),(146,iE 464),(147,iE 465),(148,iE 466),(149,iE 467),(150,iE 468),(151,iE 469),(152,iE 470),(153,iE 528),(154,iE 529),(155,iE 530),(156,iE 531),(157,iE 532),(158,iE 533),(159,iE 534),(160,iE 535)])),(5,[(0,iE 544)])],
   gone := [7,6],nt' := 231,
   ivs := ([(568,0,1),(555,0,255),(556,0,80),(557,0,0),(558,0,4),(559,0,255),(560,0,255),(561,0,255),(562,0,255),(563,0,255),(564,0,255),(565,0,255),(566,0,255),(567,0,255),(455,-67108864,67108864),(456,-67108864,67108864),(457,-16777216,16777216),(458,-16777216,16777216),(459,-16777216,16777216),(460,-16777216,16777216),(355,0,1),(361,0,1),(362,0,1),(369,0,1),(336,-9223372036854775806,9223372036854775806),(337,mI,mA),(338,mI,mA),(339,mI,mA),(340,0,1),(341,0,1),(342,0,1)] ++ sq50 ++ [(398,0,1),(536,0,4096),(537,0,1),(538,0,1),(539,0,1),(540,0,1),(541,0,1),(542,0,1),(543,0,1),(569,0,1)] ++ sq31 ++ [(316,mI,mA),(317,mI,mA),(318,mI,mA),(319,mI,mA),(348,mI,mA),(349,mI,mA),(350,mI,mA),(351,mI,mA),(387,0,4),(388,1,1099511627776),(389,0,16),(520,mI,mA),(521,mI,mA),(522,mI,mA),(523,mI,mA),(524,mI,mA),(525,mI,mA),(261,mI,mA),(275,-72057594037927936,72057594037927935),(276,mI,mA),(279,-9223372036854775808,22),(399,mI,mA),(400,0,1),(324,mI,mA),(325,mI,mA),(526,mI,mA),(527,mI,mA),(463,mI,mA),(464,mI,mA),(465,mI,mA),(466,mI,mA),(467,mI,mA),(468,mI,mA),(469,-562949953421312,562949953421312),(470,mI,mA),(528,-12000,0),(529,-10006,10006),(530,mI,mA),(531,mI,mA),(532,mI,mA),(533,mI,mA),(534,mI,mA),(535,mI,mA)]),fx := [] }
def m29c : MLit := { m29p with args := [.a (.one (.ptr 19 0)),.a (.agg (inLs ++ [.sla 3 1 9]))],mem := frM }
def m29v : MLit :=
 {m29n with
   args := [.a (.one (.ptr 19 0)),.a (.agg (inLs ++ [.sla 3 0 10]))],
   mem := frM,
   out := .tup [.agg [iE 527,bE 528,bE 529,bE 530,bE 531,bE 532,bE 533,.mix (.e 534) (.opq 204) (.nilS),bE 349,bE 350,.mix (.e 560) (.slc 232 0 14 14) (.nilS)],.one (.nilI)],
   nw := [⟨232,[(.e 559,true)],[uE 546,.int .u8 (.c (11)),uE 547,uE 548,uE 549,uE 550,uE 551,uE 552,uE 553,uE 554,uE 555,uE 556,uE 557,uE 558],none⟩,⟨204,[],[iE 510],some 3⟩,⟨158,[],[iE 446,iE 447],none⟩,⟨157,[],[iE 448,iE 449,iE 450,iE 451],none⟩,⟨110,[],[],some 1002⟩,⟨60,[],[bE 373,bE 374,bE 375,bE 376,bE 377,bE 378,bE 379,bE 380,bE 381,bE 382,bE 383],none⟩,⟨58,[],[bE 352,bE 235,bE 358,bE 317,bE 318,bE 319,bE 320,bE 359,bE 364,bE 13,bE 366],none⟩],
   dif := [(19,(sq32 ++ [(102,iE 313),(103,iE 314),(104,iE 315),(105,iE 316),(106,bE 317),(107,bE 318),(108,bE 319),(109,bE 320),(110,iE 345),(111,iE 346),(112,iE 347),(113,iE 348),(114,bE 349),(115,bE 350),(116,bE 351),(117,.slu 58 0 11 1),(118,.slu 60 0 11 1),(119,iE 384),(120,iE 385),(121,.opl 110 (.e 386)),(122,iE 511),(123,iE 512),(124,iE 513),(125,iE 514),(126,iE 515),(127,iE 516),(128,iE 261),(129,iE 275),(130,iE 276),(131,iC 15),(132,iC 0),(133,iC 0),(134,iC 0),(135,iE 394),(136,bE 395),(137,iE 321),(138,iE 322),(139,iE 517),(140,iE 518),(141,iE 454),(144,.sla 157 0 4),(145,.sla 158 0 2),(146,iE 455),(147,iE 456),(148,iE 457),(149,iE 458),(150,iE 459),(151,iE 460),(152,iE 461),(153,iE 519),(154,iE 520),(155,iE 521),(156,iE 522),(157,iE 523),(158,iE 524),(159,iE 525),(160,iE 526)])),(5,[(0,iE 535)])],
   gone := [7,6],nt' := 233,
   ivs := ([(559,0,1),(546,0,255),(547,0,80),(548,0,0),(549,0,4),(550,0,255),(551,0,255),(552,0,255),(553,0,255),(554,0,255),(555,0,255),(556,0,255),(557,0,255),(558,0,255),(446,-67108864,67108864),(447,-67108864,67108864),(448,-16777216,16777216),(449,-16777216,16777216),(450,-16777216,16777216),(451,-16777216,16777216),(352,0,0),(358,0,1),(359,0,1),(366,0,1),(333,-9223372036854775806,9223372036854775806),(334,mI,mA),(335,mI,mA),(336,mI,mA),(337,0,1),(338,0,1),(339,0,1)] ++ sq50 ++ [(393,0,1),(527,0,4096),(528,0,1),(529,0,1),(530,0,1),(531,0,1),(532,0,1),(533,0,1),(534,0,1),(560,0,1)] ++ sq31 ++ [(313,mI,mA),(314,mI,mA),(315,mI,mA),(316,mI,mA),(345,mI,mA),(346,mI,mA),(347,mI,mA),(348,mI,mA),(384,0,4),(385,1,1099511627776),(386,0,16),(511,mI,mA),(512,mI,mA),(513,mI,mA),(514,mI,mA),(515,mI,mA),(516,mI,mA),(261,mI,mA),(275,-72057594037927936,72057594037927935),(276,mI,mA),(394,mI,mA),(395,0,1),(321,mI,mA),(322,mI,mA),(517,mI,mA),(518,mI,mA),(454,mI,mA),(455,mI,mA),(456,mI,mA),(457,mI,mA),(458,mI,mA),(459,mI,mA),(460,-562949953421312,562949953421312),(461,mI,mA),(519,-12000,0),(520,-10006,10006),(521,mI,mA),(522,mI,mA),(523,mI,mA),(524,mI,mA),(525,mI,mA),(526,mI,mA)]),fx := [] }
def isAdd (x y : Ref) : Df → Bool
 | .bin .add .i64 a b=>a.same x && b.same y
 | _=>false
def isGtr (x y : Ref) : Df → Bool
 | .bin .gtr .i64 a b=>a.same x && b.same y
 | _=>false
def isMn (x y : Ref) : Df → Bool
 | .mn a b=>a.same x && b.same y
 | _=>false
def busDefs : List (Nat × (Df → Bool)) := [(277,isAdd (.e 76) (.c 1)),(278,isAdd (.e 19) (.c 1)),(279,isMn (.e 277) (.e 278)),(355,isGtr (.e 279) (.e 19))]
def busDefsV : List (Nat × (Df → Bool)) := [(352,isGtr (.c 0) (.e 19))]
def ObjA : Objs where
 rel k vs L w := if k = 3 then relE vs L w else if k = 5 then BlankRel L w else False
 keep := fun {k vs L w w'} h hs hk=>by
  by_cases h3 : k = 3
  ·simp only [h3,if_true] at h ⊢
   exact relE_keep h hs hk
  by_cases h5 : k = 5
  ·simp only [h5,if_true] at h ⊢
   exact h.keep hk
  ·simp only [if_neg h3,if_neg h5] at h
theorem objA5 : ∀ (vs : List Value) L w,ObjA.rel 5 vs L w ↔ BlankRel L w := fun _ _ _=>Iff.rfl
theorem objA3 : ∀ (vs : List Value) L w,relE vs L w → ObjA.rel 3 vs L w := fun _ _ _ h=>h
def AxOk (l : List (FuncId × Ctr)) : Prop := ∀ I X E f c,tblCtr l f = some c → CtrOk (mkCx l) ObjA I X E f c
theorem ax_cons {l : List (FuncId × Ctr)} {f : FuncId} {c : Ctr} (h : AxOk l) (h0 : ∀ I X E,CtrOk (mkCx l) ObjA I X E f c) : AxOk ((f,c) :: l) := tbl_cons h h0
theorem ax_lit {l : List (FuncId × Ctr)} {f : FuncId} {L : MLit} (h : AxOk l) (hc : L.check (mkCx l) 20 6000 f = true) (hg : L.gl = [0,1,2] := by rfl) (hs : L.sup = [] := by rfl) : ∀ I X E,CtrOk (mkCx l) ObjA I X E f (L.ms (mkCx l) 20 6000 f).ctr :=
 MLit.ok (C := mkCx l) cx_mix cx_name h (fun gl id h=>by rw [hg]; exact mkCx_gl l gl id h) hc hs
theorem ax_or {l : List (FuncId × Ctr)} {f : FuncId} {a b : Ctr} (ha : ∀ I X E,CtrOk (mkCx l) ObjA I X E f a) (hb : ∀ I X E,CtrOk (mkCx l) ObjA I X E f b) : ∀ I X E,CtrOk (mkCx l) ObjA I X E f (a.or b) := fun I X E=>(ha I X E).or (hb I X E)
theorem axT_ok : AxOk awT := fun I X E f c hc=>awT_ok ObjA I X E f c hc
theorem ax0_ok : AxOk ax0 := ax_cons axT_ok (newBl_ok (C := mkCx awT) rfl (mkCx_gl awT) objA5)
theorem ax1_ok : AxOk ax1 := ax_cons ax0_ok (downBl_ok (C := mkCx ax0) rfl (mkCx_gl ax0) objA5)
theorem ax2_ok : AxOk ax2 := ax_cons ax1_ok (pagesBl_ok (C := mkCx ax1) rfl (mkCx_gl ax1) objA5)
theorem ax3_ok : AxOk ax3 := ax_cons ax2_ok (blocksBl_ok (C := mkCx ax2) rfl (mkCx_gl ax2) objA5)
theorem ax4_ok : AxOk ax4 := ax_cons ax3_ok (readBl_ok (C := mkCx ax3) rfl (mkCx_gl ax3) objA5)
theorem gk0_ok : ∀ I X E,CtrOk (mkCx ax4) ObjA I X E 169 (gatesK gy0 gz0).ctr := gatesK_ok (C := mkCx ax4) rfl (mkCx_gl ax4) objA3 (by decide +kernel) (by decide +kernel)
theorem gk1_ok : ∀ I X E,CtrOk (mkCx ax4) ObjA I X E 169 (gatesK gy1 gz1).ctr := gatesK_ok (C := mkCx ax4) rfl (mkCx_gl ax4) objA3 (by decide +kernel) (by decide +kernel)
theorem gk2_ok : ∀ I X E,CtrOk (mkCx ax4) ObjA I X E 169 (gatesK gy2 gz2).ctr := gatesK_ok (C := mkCx ax4) rfl (mkCx_gl ax4) objA3 (by decide +kernel) (by decide +kernel)
theorem ax5_ok : AxOk ax5 := ax_cons ax4_ok (ax_or gk0_ok (ax_or gk1_ok gk2_ok))
theorem ax6_ok : AxOk ax6 := ax_cons ax5_ok (ax_lit ax5_ok m126_chk)
theorem ax7_ok : AxOk ax7 := ax_cons ax6_ok (ax_lit ax6_ok m55_chk)
theorem ax8_ok : AxOk ax8 := ax_cons ax7_ok (ax_lit ax7_ok w18_chk)
theorem ax9_ok : AxOk ax9 := ax_cons ax8_ok (ax_lit ax8_ok w28_chk)
theorem ax10_ok : AxOk ax10 := ax_cons ax9_ok (ax_or (ax_lit ax9_ok w93k0_chk) (ax_lit ax9_ok w93k1_chk))
theorem ax11_ok : AxOk ax11 := ax_cons ax10_ok (ax_or (ax_lit ax10_ok w94k0_chk) (ax_or (ax_lit ax10_ok w94k1_chk) (ax_or (ax_lit ax10_ok w94k2_chk) (ax_or (ax_lit ax10_ok w94k3_chk) (ax_lit ax10_ok w94k4_chk)))))
theorem ax12_ok : AxOk ax12 := ax_cons ax11_ok (ax_or (ax_lit ax11_ok w95k0_chk) (ax_or (ax_lit ax11_ok w95k1_chk) (ax_or (ax_lit ax11_ok w95k2_chk) (ax_or (ax_lit ax11_ok w95k3_chk) (ax_lit ax11_ok w95k4_chk)))))
theorem ax13_ok : AxOk ax13 := ax_cons ax12_ok (ax_lit ax12_ok w96k0_chk)
theorem ax14_ok : AxOk ax14 := ax_cons ax13_ok (ax_or (ax_lit ax13_ok w99k0_chk) (ax_or (ax_lit ax13_ok w99k1_chk) (ax_or (ax_lit ax13_ok w99k2_chk) (ax_or (ax_lit ax13_ok w99k3_chk) (ax_lit ax13_ok w99k4_chk)))))
theorem ax15_ok : AxOk ax15 := ax_cons ax14_ok (ax_or (ax_lit ax14_ok w100k0_chk) (ax_or (ax_lit ax14_ok w100k1_chk) (ax_or (ax_lit ax14_ok w100k2_chk) (ax_or (ax_lit ax14_ok w100k3_chk) (ax_lit ax14_ok w100k4_chk)))))
theorem ax16_ok : AxOk ax16 := ax_cons ax15_ok (ax_or (ax_lit ax15_ok w102k0_chk) (ax_or (ax_lit ax15_ok w102k3_chk) (ax_lit ax15_ok w102k4_chk)))
theorem ax17_ok : AxOk ax17 := ax_cons ax16_ok (ax_or (ax_lit ax16_ok w104k0_chk) (ax_or (ax_lit ax16_ok w104k1_chk) (ax_or (ax_lit ax16_ok w104k2_chk) (ax_or (ax_lit ax16_ok w104k3_chk) (ax_lit ax16_ok w104k4_chk)))))
theorem ax18_ok : AxOk ax18 := ax_cons ax17_ok (ax_or (ax_lit ax17_ok w29k0_chk) (ax_or (ax_lit ax17_ok w29k1_chk) (ax_or (ax_lit ax17_ok w29k2_chk) (ax_or (ax_lit ax17_ok w29k3_chk) (ax_lit ax17_ok w29k4_chk)))))
theorem ax19_ok : AxOk ax19 := ax_cons ax18_ok (ax_lit ax18_ok w19k0_chk)
theorem ax20_ok : AxOk ax20 := ax_cons ax19_ok (ax_or (ax_lit ax19_ok w30k0_chk) (ax_lit ax19_ok w30k1_chk))
theorem ax21_ok : AxOk ax21 := ax_cons ax20_ok (ax_or (ax_lit ax20_ok w35k0_chk) (ax_or (ax_lit ax20_ok w35k1_chk) (ax_or (ax_lit ax20_ok w35k2_chk) (ax_or (ax_lit ax20_ok w35k3_chk) (ax_lit ax20_ok w35k4_chk)))))
theorem ax22_ok : AxOk ax22 := ax_cons ax21_ok (ax_lit ax21_ok v33_chk)
theorem hold_awake : w12.Holds (mkCx ax22) ObjA 20 6000 12 := MLit.holds (C := mkCx ax22) cx_mix cx_name ax22_ok w12_chk
theorem awake_walk {T : Nat → TypeId} {w : World} (hT : Tabs T w) : Calls Tryz.prog 12 #[] w fun e w'=>e = .returned (.bool true) ∧ Quiet w w' ∧ Tabs T w' := by
 refine Calls.mono (hold_awake.tabs (T := T) (ρ := tabMap T) rfl rfl (by decide +kernel) rfl (xs := []) (fun _ h=>by cases h) hT (fun _ _=>rfl) (fun i hi _=>by unfold tabMap; rw [if_neg (by omega)]) (vs := []) trivial) fun e w' he=>?_
 obtain ⟨ρ',u,e1,e2,_,e4,e5,_⟩ := he
 exact ⟨by rw [e1,show u = .bool true from e2],e4,e5⟩
end Go.Proofs.YtbegodiligmphaaGreatDoor.Sy
