/- Part of the proof of BusProof. The objects of the drive's contracts: lists of edges, logs. slices.Clone over slices of unknown content: contracts for the evaluator. The flash memory: a block is erased; a page is read. The flash memory as an object: its content is one number; contracts of its methods for the evaluator. The flash memory as an object: contracts of its methods for the evaluator. Regions that draw their order: operations that read what stays as it is, one call that makes memory, and what writes behind all of them. Regions that draw their order, with several calls that make memory, and blocks that are made at any time. A new flash memory. A blank flash memory as an object: flash.New, and what is read of it. The parameter store of the statements' drive: its shapes; its methods by cases. The contract of gates.Run for the evaluator, out of its walk. gates.Run at known numbers. -/
import Derived.ArgAppend
import Derived.Laws.OwnMore
import Derived.Test.YtbegodiligmphaaGreatDoorQb05
import Derived.Test.YtbegodiligmphaaGreatDoorQb06
import Derived.Test.YtbegodiligmphaaGreatDoorQb11
namespace Go.Proofs.YtbegodiligmphaaGreatDoor.Sy
open Go
def edL (e : I.Ed) : List Int := [e.t,e.s,ofB e.o]
def codeE (es : List I.Ed) : Int := codeI (es.flatMap edL)
def relE (vs : List Value) (L : Loc) (w : World) : Prop :=
 ∃ es A n c,vs = [.int .i64 (codeE es)] ∧ L.val = .slice A n c ∧ n = es.length ∧ Sl w w.heap.size 3 A (es.map I.Ed.row) ∧ ∀ ad,A = some ad → 0 < n → L.own ad.block
theorem relE_keep {vs : List Value} {L : Loc} {w w' : World} (h : relE vs L w) (hs : w.heap.size ≤ w'.heap.size) (hk : ∀ x,L.own x → w'.heap[x]? = w.heap[x]?) : relE vs L w' := by
 obtain ⟨es,A,n,c,h1,h2,h3,h4,h5⟩ := h
 refine ⟨es,A,n,c,h1,h2,h3,⟨h4.len,fun hl=>?_⟩,h5⟩
 obtain ⟨ad,e,hb,hc⟩ := h4.at_ hl
 refine ⟨ad,e,by omega,fun k r hr j u hu=>?_⟩
 have ho := h5 ad e (by rw [h3]; simpa using hl)
 rw [← hc k r hr j u hu]
 exact World.cell?_of_block (w := w) (by rw [block_of_add]; exact hk _ ho)
theorem reO {O : Objs} {k : Nat} {vs : List Value} {L : Loc} {w : World} (h : O.rel k vs L w) (hk : k < 1000 := by decide) : O.re k vs L w := by
 unfold Objs.re
 rw [if_neg (by omega)]
 exact h
end Go.Proofs.YtbegodiligmphaaGreatDoor.Sy
namespace Go.Proofs.YtbegodiligmphaaGreatDoor
open Go Go.RowKit
theorem wpList_append_run {P : Program} {w w' : World} {ops : Array Oper} {rest : List Oper} {o : Oper} {a : Act} {Q : Exit → Act → World → Prop} {u : Value} (hgd : o.guard = none) (s x : Operand) (t tx : TypeId)
  (ho : o.op = .call { callee := .builtin .append,args := #[s,x],argTypes := #[t,tx] }) (hrun : (Builtin.append_ #[t,tx] o.type #[a.eval s,a.eval x]).run P w = .ok u w')
  (h : wpList P ops Q rest (a.put o.dst u) w') : wpList P ops Q (o :: rest) a w :=
 wpList_plain hgd fun K hK=>by
  unfold Oper.wp
  simp [execOp,ho,resolve,invoke,builtin,hrun,Result.andThen]
  exact hK _ _ h
theorem wpList_append_all {P : Program} {w : World} {ops : Array Oper} {rest : List Oper} {o : Oper} {a : Act} {Q : Exit → Act → World → Prop} (hgd : o.guard = none) (s x : Operand) (t tx : TypeId)
  (ho : o.op = .call { callee := .builtin .append,args := #[s,x],argTypes := #[t,tx] }) (Post : Value → World → Prop) (hrun : ∃ u w',(Builtin.append_ #[t,tx] o.type #[a.eval s,a.eval x]).run P w = .ok u w' ∧ Post u w')
  (h : ∀ u w',Post u w' → wpList P ops Q rest (a.put o.dst u) w') : wpList P ops Q (o :: rest) a w := by
 obtain ⟨u,w',h1,h2⟩ := hrun
 exact wpList_append_run hgd s x t tx ho h1 (h u w' h2)
namespace Sy
theorem SlOk.quiet {z : Nat} {L : Loc} {w w' : World} (h : SlOk z L w) (hlow : ∀ x,L.own x → x < w.heap.size) (hq : Quiet w w') : SlOk z L w' := by
 obtain ⟨a,len,cap,h1,h2,h3⟩ := h
 refine ⟨a,len,cap,h1,h2,?_⟩
 rcases h3 with h3 | ⟨b,off,e,h3⟩
 ·exact .inl h3
 ·refine .inr ⟨b,off,e,?_⟩
  rcases h3 with h3 | ⟨ho,t,cs,hh,h4⟩
  ·exact .inl h3
  ·exact .inr ⟨ho,t,cs,by rw [hq.block b (hlow b ho)]; exact hh,h4⟩
def cloneS (z : Nat) : MS :=
 {args := [.a (.one (.opl 3 (.e 0)))],mem := ⟨3,[],[],some (1000 + z)⟩ :: tabs3,nt := 4,ob := obN,k := 1,dom := [(0,0,1048576)],
  out := .a (.one (.opl 4 (.e 0))),mem' := ⟨4,[],[],some (1000 + z)⟩ :: ⟨3,[],[],some (1000 + z)⟩ :: tabs3,nt' := 5,F := fun _ _=>0,iv := fun _=>(1,0),gl := [0,1,2] }
end Sy
set_option maxRecDepth 100000 in
set_option maxHeartbeats 1600000 in
theorem cloneFaultEvent_walk {L : Sy.Loc} {w : World} (hL : Sy.SlOk 2 L w) (hlow : ∀ x,L.own x → x < w.heap.size) {a : Option Addr} {len cap : Nat} (hv : L.val = .slice a len cap) (hlen : len ≤ 1048576) :
  Calls Tryz.prog 110 #[L.val] w fun e w'=>∃ L' : Sy.Loc,e = .returned L'.val ∧ (∃ a' cap',L'.val = .slice a' len cap') ∧ Sy.SlOk 2 L' w' ∧ (∀ x,L'.own x → w.heap.size ≤ x ∧ x < w'.heap.size) ∧ Below w.heap.size w w' := by
 rw [hv]
 have HV := Lib.hid hv
 have HL := Lib.hid hL
 clear hv hL
 cases a with
 | none =>
  have hz : len = 0 ∧ cap = 0 := by
   obtain ⟨a',len',cap',hv',hlc,h3⟩ := HL.out
   rw [HV.out] at hv'
   injection hv' with e1 e2 e3
   subst e1; subst e2; subst e3
   rcases h3 with ⟨_,hc⟩ | ⟨b,off,e,_⟩
   ·omega
   ·cases e
  obtain ⟨rfl,rfl⟩ := hz
  have hb := Below.refl w.heap.size w
  have e0 : ∀ w,(binOp .eql 110 (.slice none 0 0) (.slice none 0 0)).run Tryz.prog w = .ok (.bool true) w := fun w=>by kernel_rfl
  go_enter Tryz.func110,Tryz.ntmps110
  go_wp2
  go_ret
  exact ⟨⟨0,0,fun _=>False,.slice none 0 0⟩,rfl,⟨none,0,rfl⟩,⟨none,0,0,rfl,Nat.le_refl _,.inl ⟨rfl,rfl⟩⟩,fun _ h=>h.elim,hb⟩
 | some ad =>
  have e1 : ∀ w,(binOp .eql 110 (.slice (some ad) len cap) (.slice none 0 0)).run Tryz.prog w = .ok (.bool false) w := fun w=>by kernel_rfl
  have hall : ∀ W1,Below w.heap.size w W1 → ∃ u W2,(Builtin.append_ #[110,110] 110 #[.slice (some ⟨w.heap.size,0,none⟩) 0 0,.slice (some ad) len cap]).run Tryz.prog W1 = .ok u W2 ∧
    ∃ L' : Sy.Loc,u = L'.val ∧ (∃ a' cap',L'.val = .slice a' len cap') ∧ Sy.SlOk 2 L' W2 ∧ (∀ x,L'.own x → w.heap.size ≤ x ∧ x < W2.heap.size) ∧ Below w.heap.size w W2 := fun W1 hq=>by
   obtain ⟨nv,s1,s2,s3⟩ := (HL.out.quiet hlow hq).src (P := Tryz.prog) HV.out Tryz.underlying110
   rw [HV.out] at s2
   obtain ⟨L',W2,q1,q2,q3,q4,q5,q6,q7,q8⟩ := Sy.append_sl (P := Tryz.prog) (w := W1) (by_ := 16) (ty := 110) (L := ⟨0,0,fun _=>False,.slice (some ⟨w.heap.size,0,none⟩) 0 0⟩) Tryz.underlying110 Tryz.type231 rfl rfl rfl rfl (fun v hv=>by
    have hv' : v ∈ [Value.int .i64 0,Value.int .i64 0] := hv
    simp only [List.mem_cons,List.not_mem_nil,or_false,or_self] at hv'
    subst hv'
    exact ⟨by simp,by simp⟩) ⟨_,0,0,rfl,Nat.le_refl _,.inr ⟨_,_,rfl,.inl rfl⟩⟩ rfl (fun _ h=>h.elim) s2 s3 (by unfold Sy.maxBytes; omega) (by unfold Sy.maxBytes; omega)
   rw [Nat.zero_add] at q2
   refine ⟨L'.val,W2,q1,L',rfl,q2,q3,fun x hx=>⟨?_,q5 x hx⟩,hq.trans ⟨q8.os,q8.tape,q8.output,q6,fun k hk=>q7 k (Nat.lt_of_lt_of_le hk hq.size) (fun h=>h.elim)⟩⟩
   rcases q4 x hx with h | h
   ·exact h.elim
   ·exact Nat.le_trans hq.size h
  have hb1 : ∀ o,Below w.heap.size w (w.alloc o) := fun o=>(Below.refl w.heap.size w).alloc (Nat.le_refl _) o
  go_enter Tryz.func110,Tryz.ntmps110
  go_wp2_with (refine wpList_append_all rfl _ _ _ _ rfl _ (hall _ (hb1 _)) ?_)
  rintro u W2 L' rfl a' cap' q2 q3 q4 q5
  have HP := Lib.hid q2
  have HQ := Lib.hid q3
  clear q2 q3 e1 hall hb1
  go_wp2
  go_ret
  exact ⟨L',rfl,⟨a',cap',HP.out⟩,HQ.out,q4,q5⟩
namespace Sy
theorem cloneS_of {z : Nat} {f : FuncId} {C : Cx} {O : Objs} (hP : C.P = Tryz.prog) (hgl : ∀ gl id,C.glob gl = some id → id ∈ [0,1,2]) (hbody : ∃ fn b,C.P.funcs[f]? = some fn ∧ fn.body = some b)
  (hw : ∀ (L : Loc) (w : World) (a : Option Addr) (len cap : Nat),SlOk z L w → (∀ x,L.own x → x < w.heap.size) → L.val = .slice a len cap → len ≤ 1048576 →
   Calls Tryz.prog f #[L.val] w fun e w'=>∃ L' : Loc,e = .returned L'.val ∧ (∃ a' cap',L'.val = .slice a' len cap') ∧ SlOk z L' w' ∧ (∀ x,L'.own x → w.heap.size ≤ x ∧ x < w'.heap.size) ∧ Below w.heap.size w w') :
  ∀ I X E,CtrOk C O I X E f (cloneS z).ctr := by
 have hWt : WF ⟨(cloneS z).mem,4⟩ := by
  refine ⟨List.pairwise_cons.2 ⟨fun c hc=>?_,by decide⟩,fun c hc=>?_⟩
  ·have h3 : ∀ c ∈ tabs3,c.id < 3 := by decide
   exact h3 c hc
  ·rcases List.mem_cons.1 hc with rfl | hc
   ·exact (by decide : 3 < 4)
   ·have h3 : ∀ c ∈ tabs3,c.id < 4 := by decide
    exact h3 c hc
 refine MS.of (cloneS z) hbody hWt (by show 4 ≤ 5; decide) (by show 5 ≤ 1000000; decide) hgl (fun b hb=>?_) fun xs hl hd Ef h1 h2 ρ vs w hs hG hM hF=>?_
 ·rcases List.mem_cons.1 hb with rfl | hb
  ·exact .inr ⟨(by decide : 4 ≤ 4),(by decide : 4 < 5)⟩
  ·exact .inl ⟨b,hb,rfl⟩
 have d0 : (0 : Int) ≤ xs.getD 0 0 ∧ xs.getD 0 0 ≤ 1048576 := hd (0,0,1048576) (by simp [cloneS])
 have e0 := h1 0 (by show 0 < 1; decide)
 match vs,hs with
 | [v0],⟨⟨L,hL,hv,a,len,cap,he,hn⟩,_⟩ =>
  rw [hP]
  have hn : Ef 0 = (len : Nat) := hn
  have hb0 : (⟨3,[],[],some (1000 + z)⟩ : SB) ∈ (cloneS z).mem := List.mem_cons_self ..
  obtain ⟨L0,vs0,hL0,_,hsl⟩ := hM.blk _ hb0 rfl
  have hL0 : ρ 3 = some L0 := hL0
  rw [hL] at hL0
  obtain rfl : L = L0 := by injection hL0
  simp only [Objs.re] at hsl
  rw [if_pos (by omega),show 1000 + z - 1000 = z by omega] at hsl
  have hlow := hM.low _ hb0 rfl L hL
  rw [hv]
  refine Calls.mono (hw L w a len cap hsl hlow (by rw [← hv]; exact he) (by omega)) fun e w' h=>?_
  obtain ⟨L',rfl,⟨a',cap',hv'⟩,hsl',hown,hq⟩ := h
  have hblk : Blk O (more ρ 4 L') Ef ⟨4,[],[],some (1000 + z)⟩ w' := ⟨L',[],more_self,trivial,by
   simp only [Objs.re]
   rw [if_pos (by omega),show 1000 + z - 1000 = z by omega]
   exact hsl'⟩
  obtain ⟨m1,m2⟩ := new1 hM hWt hF hq hblk hown
  exact ⟨more ρ 4 L',_,rfl,⟨L',more_self,rfl,a',len,cap',hv',hn⟩,m1,m2⟩
theorem cloneFaultEvent_ok {C : Cx} {O : Objs} (hP : C.P = Tryz.prog) (hgl : ∀ gl id,C.glob gl = some id → id ∈ [0,1,2]) : ∀ I X E,CtrOk C O I X E 110 (cloneS 2).ctr :=
 cloneS_of hP hgl ⟨_,_,by rw [hP]; exact Tryz.func110,rfl⟩ fun _ _ _ _ _ h1 h2 h3 h4=>cloneFaultEvent_walk h1 h2 h3 h4
end Sy
end Go.Proofs.YtbegodiligmphaaGreatDoor
namespace Go.Proofs.YtbegodiligmphaaGreatDoor
open Go Go.RowKit
def ers (xs : List Int) (b : Nat) : Nat → List Int
 | 0=>xs
 | j + 1=>(ers xs b j).set (b * 512 + j) 255
theorem ers_len {xs : List Int} {b : Nat} : ∀ j,(ers xs b j).length = xs.length
 | 0=>rfl
 | j + 1=>by rw [ers,List.length_set,ers_len j]
set_option maxRecDepth 100000 in
set_option maxHeartbeats 3200000 in
theorem flErase {F t I tI W tW c b : Nat} {xs : List Int} {w0 w1 : Int} {w : World} (hF : Blk w F t (flC I W c)) (hI : Blk w I tI (bsA xs)) (hx : xs.length = 1024) (hW : Blk w W tW #[.int .i64 w0,.int .i64 w1]) (hIW : I ≠ W) (_hFW : F ≠ W) (hb : b < 2) :
  Calls Tryz.prog 170 #[.pointer (some ⟨F,0,none⟩),.int .i64 b] w fun e w'=>e = .returned .nilIface ∧ Blk w' I tI (bsA (ers xs b 512)) ∧
   Blk w' W tW (if b = 0 then #[.int .i64 (wrap64 (w0 + 1)),.int .i64 w1] else #[.int .i64 w0,.int .i64 (wrap64 (w1 + 1))]) ∧ ∃ v,w.grownBy v (some W) ∧ v.grownBy w' (some I) := by
 obtain ⟨y0,y1,y2,y3,y4,y5⟩ := Blk.c6 hF
 have hw := flWithin (b : Int) 0 1 (by omega) (by omega)
 obtain ⟨z0,z1⟩ := Blk.c2 hW
 have f0 := hW.frozen 0
 have f1 := hW.frozen 1
 have HX := Lib.hid hx
 clear hx
 have hb2 : b = 0 ∨ b = 1 := by omega
 clear hb
 rcases hb2 with rfl | rfl
 ·have hIv := hI.far (p := ⟨W,0,none⟩) hIW (.int .i64 (wrap64 (w0 + 1)))
  have hWv : Blk (w.setCell ⟨W,0,none⟩ (.int .i64 (wrap64 (w0 + 1)))) W tW #[.int .i64 (wrap64 (w0 + 1)),.int .i64 w1] := hW.set_ 0 (.int .i64 (wrap64 (w0 + 1)))
  have hgv := grown_setCell (grown_self w (some W)) (p := ⟨W,0,none⟩) (.inl rfl) (.int .i64 (wrap64 (w0 + 1)))
  generalize hv : w.setCell ⟨W,0,none⟩ (.int .i64 (wrap64 (w0 + 1))) = v at hIv hWv hgv
  go_enter Tryz.func170,Tryz.ntmps170
  go_wp2_with (first | (go_at_call 54; refine (hw _).mono ?_; rintro e w2 ⟨rfl,rfl⟩) | (go_at_call 240; refine (flCut hF).mono ?_; rintro e w2 ⟨rfl,rfl⟩))
  go_loopw [57] (fun i wr=>∃ j : Nat,i = .int .i64 j ∧ j ≤ 512 ∧ Blk wr I tI (bsA (ers xs 0 j)) ∧ v.grownBy wr (some I)) (fun i _=>512 - (intOf i).toNat)
  case atStart=>exact ⟨0,rfl,by omega,(by first | exact hIv | (rw [hv]; exact hIv)),(by first | exact grown_self v (some I) | (rw [hv]; exact grown_self v (some I)))⟩
  case round =>
  obtain ⟨j,rfl,hj,hIw,hg⟩ := hrel
  by_cases hlt : j < 512
  ·have c1 := bs_cell hIw (i := 0 * 512 + j) (by rw [ers_len]; have := HX.out; omega)
   have f1 := hIw.frozen (0 * 512 + j)
   have hset := bs_set hIw (0 * 512 + j) 255
   have hgs := grown_setCell hg (p := ⟨I,0 * 512 + j,none⟩) (.inl rfl) (.int .u8 255)
   simp only [Nat.zero_mul,Nat.zero_add] at c1 f1 hset hgs
   go_wp2
   go_roundw
   case rel=>exact ⟨j + 1,rfl,by omega,(by show Blk _ I tI (bsA ((ers xs 0 j).set (0 * 512 + j) 255)); simpa using hset),hgs⟩
   case measure=>simp [intOf]; omega
  ·obtain rfl : j = 512 := by omega
   go_wp2
   go_ret
   exact ⟨rfl,hIw,hWv.grown hg (by simp; exact fun h=>hIW h.symm),v,hgv,hg⟩
 ·have hIv := hI.far (p := ⟨W,1,none⟩) hIW (.int .i64 (wrap64 (w1 + 1)))
  have hWv : Blk (w.setCell ⟨W,1,none⟩ (.int .i64 (wrap64 (w1 + 1)))) W tW #[.int .i64 w0,.int .i64 (wrap64 (w1 + 1))] := hW.set_ 1 (.int .i64 (wrap64 (w1 + 1)))
  have hgv := grown_setCell (grown_self w (some W)) (p := ⟨W,1,none⟩) (.inl rfl) (.int .i64 (wrap64 (w1 + 1)))
  generalize hv : w.setCell ⟨W,1,none⟩ (.int .i64 (wrap64 (w1 + 1))) = v at hIv hWv hgv
  go_enter Tryz.func170,Tryz.ntmps170
  go_wp2_with (first | (go_at_call 54; refine (hw _).mono ?_; rintro e w2 ⟨rfl,rfl⟩) | (go_at_call 240; refine (flCut hF).mono ?_; rintro e w2 ⟨rfl,rfl⟩))
  go_loopw [57] (fun i wr=>∃ j : Nat,i = .int .i64 j ∧ j ≤ 512 ∧ Blk wr I tI (bsA (ers xs 1 j)) ∧ v.grownBy wr (some I)) (fun i _=>512 - (intOf i).toNat)
  case atStart=>exact ⟨0,rfl,by omega,(by first | exact hIv | (rw [hv]; exact hIv)),(by first | exact grown_self v (some I) | (rw [hv]; exact grown_self v (some I)))⟩
  case round =>
  obtain ⟨j,rfl,hj,hIw,hg⟩ := hrel
  by_cases hlt : j < 512
  ·have c1 := bs_cell hIw (i := 1 * 512 + j) (by rw [ers_len]; have := HX.out; omega)
   have f1 := hIw.frozen (1 * 512 + j)
   have hset := bs_set hIw (1 * 512 + j) 255
   have hgs := grown_setCell hg (p := ⟨I,1 * 512 + j,none⟩) (.inl rfl) (.int .u8 255)
   simp only [Nat.one_mul] at c1 f1 hset hgs
   go_wp2
   go_roundw
   case rel=>exact ⟨j + 1,rfl,by omega,(by show Blk _ I tI (bsA ((ers xs 1 j).set (1 * 512 + j) 255)); simpa using hset),hgs⟩
   case measure=>simp [intOf]; omega
  ·obtain rfl : j = 512 := by omega
   go_wp2
   go_ret
   exact ⟨rfl,hIw,hWv.grown hg (by simp; exact fun h=>hIW h.symm),v,hgv,hg⟩
set_option maxRecDepth 100000 in
set_option maxHeartbeats 1600000 in
theorem flClone {I tI o n c : Nat} {xs : List Int} {w : World} (hI : Blk w I tI (bsA xs)) (ho : o + n ≤ xs.length) (hn : 0 < n) (hn2 : n ≤ 1024) :
  Calls Tryz.prog 114 #[.slice (some ⟨I,o,none⟩) n c] w fun e w'=>∃ g cap cur,e = .returned (.slice (some ⟨g,0,none⟩) n cap) ∧ w.heap.size ≤ g ∧ n ≤ cap ∧ w'.heap[g]? = some (.cells cur 5 (0,0)) ∧ cur.size = cap ∧
   cur.toList.take n = ((xs.drop o).take n).map (fun n=>Value.int .u8 n) ∧ w.grownBy w' none := by
 have e1 : ∀ w,(binOp .eql 78 (.slice (some ⟨I,o,none⟩) n c) (.slice none 0 0)).run Tryz.prog w = .ok (.bool false) w := fun w=>by kernel_rfl
 have hl : (((xs.drop o).take n).map (fun n=>Value.int .u8 n)).length = n * 1 := by simp; omega
 have hcell : ∀ j u,(((xs.drop o).take n).map (fun n=>Value.int .u8 n))[j]? = some u → (w.alloc (.cells #[] 5)).cell? ((⟨I,o,none⟩ : Addr).add j) = some u := fun j u hu=>by
  have hj : j < n := by have := (List.getElem?_eq_some_iff.1 hu).1; simp at this; omega
  have hIw := hI.alloc (.cells #[] 5)
  have := bs_cell hIw (i := o + j) (by omega)
  rw [show (⟨I,o,none⟩ : Addr).add j = ⟨I,o + j,none⟩ by simp [Addr.add],this]
  rw [List.getElem?_map,List.getElem?_take,if_pos hj,List.getElem?_drop,List.getElem?_eq_getElem (by omega)] at hu
  simp only [Option.map_some,Option.some.injEq] at hu
  rw [← hu,List.getD_eq_getElem?_getD,List.getElem?_eq_getElem (by omega),Option.getD_some]
 have hone : ∀ u ∈ ((xs.drop o).take n).map (fun n=>Value.int .u8 n),u.oneCell' = true := fun u hu=>by
  obtain ⟨n,_,rfl⟩ := List.mem_map.1 hu
  rfl
 have hrun := run_append_arg_grows (P := Tryz.prog) (w.alloc (.cells #[] 5)) 78 78 5 _ (.int .u8 0) 1 1 Tryz.underlying78 Tryz.type5 rfl rfl rfl rfl (by decide) ⟨w.heap.size,0,none⟩ 0 0 [] rfl (fun j u hu=>by simp at hu) ⟨I,o,none⟩ n c _ hl hcell (by omega) (by unfold maxLen; omega) (by omega)
 have HR := Lib.hid hrun
 clear hrun hone hcell hl ho hn2
 go_enter Tryz.func114,Tryz.ntmps114
 go_wp2_with (refine wpList_append_all rfl _ _ _ _ rfl (fun u w2=>w2.ownsRow (w.alloc (.cells #[] 5)).heap.size 5 1 u (0 + n) ([] ++ ((xs.drop o).take n).map (fun n=>Value.int .u8 n)) ∧ (w.alloc (.cells #[] 5)).grownBy w2 none) HR.out ?_)
 rintro u w2 h1 h2
 have H1 := Lib.hid h1
 have H2 := Lib.hid h2
 clear h1 h2
 go_wp2
 go_ret
 have h1 := H1.out
 rcases h1.2 with ⟨_,h0⟩ | ⟨g,cap,cur,hv,hb,hg,hnc,_,hs,ht⟩
 ·omega
 ·refine ⟨g,cap,cur,(by first | rfl | (rw [hv]; rfl)),by omega,by omega,hg,by omega,?_,?_⟩
  ·simp only [List.map_take,List.map_drop,Nat.mul_one] at ht ⊢
   exact ht
  ·have := H2.out
   exact ⟨this.os,this.tape,this.output,by have := this.size; simp only [World.size_alloc] at this; omega,fun k hk hne=>(this.block k (by simp only [World.size_alloc]; omega) (by simp)).trans (heap_alloc_old w _ hk)⟩
end Go.Proofs.YtbegodiligmphaaGreatDoor
namespace Go.Proofs.YtbegodiligmphaaGreatDoor
open Go Go.RowKit
set_option maxRecDepth 100000 in
set_option maxHeartbeats 1600000 in
theorem flRead {F t I tI W c k : Nat} {xs : List Int} {w : World} (hF : Blk w F t (flC I W c)) (hI : Blk w I tI (bsA xs)) (hx : xs.length = 1024) (hk : k < 16) :
  Calls Tryz.prog 189 #[.pointer (some ⟨F,0,none⟩),.int .i64 k] w fun e w'=>∃ g cap cur,e = .returned (.tuple #[.slice (some ⟨g,0,none⟩) 64 cap,.nilIface]) ∧ w.heap.size ≤ g ∧ 64 ≤ cap ∧ w'.heap[g]? = some (.cells cur 5 (0,0)) ∧ cur.size = cap ∧
   cur.toList.take 64 = ((xs.drop (k * 64)).take 64).map (fun n=>Value.int .u8 n) ∧ w.grownBy w' none := by
 have hc := fun n1=>flClone (o := k * 64) (n := 64) (c := 1024 - k * 64) (hI.drewN n1) (by omega) (by omega) (by omega)
 go_enter Tryz.func189,Tryz.ntmps189
 go_wp2_with (first | (go_at_call 242; refine (flAt hF hk).mono ?_; rintro e w1 ⟨rfl,n1,rfl⟩) | (go_at_call 114; refine (hc _).mono ?_; rintro e w2 ⟨g,cap,cur,rfl,h1,h2,h3,h4,h5,h6⟩))
 go_ret2
 exact ⟨g,cap,cur,rfl,h1,h2,h3,h4,h5,⟨h6.os,h6.tape,h6.output,h6.size,h6.block⟩⟩
theorem flDown {F t I W c : Nat} {w : World} (hF : Blk w F t (flC I W c)) : Calls Tryz.prog 184 #[.pointer (some ⟨F,0,none⟩)] w fun e w'=>e = .returned (.bool false) ∧ w = w' := by
 obtain ⟨y0,y1,y2,y3,y4,y5⟩ := Blk.c6 hF
 go_enter Tryz.func184,Tryz.ntmps184
 go_wp2
 go_ret
 exact ⟨rfl,rfl⟩
theorem flPages {F t I W c : Nat} {w : World} (hF : Blk w F t (flC I W c)) : Calls Tryz.prog 188 #[.pointer (some ⟨F,0,none⟩)] w fun e w'=>e = .returned (.int .i64 8) ∧ w = w' := by
 obtain ⟨y0,y1,y2,y3,y4,y5⟩ := Blk.c6 hF
 go_enter Tryz.func188,Tryz.ntmps188
 go_wp2
 go_ret
 exact ⟨rfl,rfl⟩
theorem flBlocks {F t I W c : Nat} {w : World} (hF : Blk w F t (flC I W c)) : Calls Tryz.prog 186 #[.pointer (some ⟨F,0,none⟩)] w fun e w'=>e = .returned (.int .i64 2) ∧ w = w' := by
 obtain ⟨y0,y1,y2,y3,y4,y5⟩ := Blk.c6 hF
 go_enter Tryz.func186,Tryz.ntmps186
 go_wp2
 go_ret
 exact ⟨rfl,rfl⟩
end Go.Proofs.YtbegodiligmphaaGreatDoor
namespace Go.Proofs.YtbegodiligmphaaGreatDoor.Sy
open Go
section
open Go Go.RowKit
def FlRel (vs : List Value) (L : Loc) (w : World) : Prop :=
 ∃ (xs : List Int) (w0 w1 : Int) (F tF I tI W tW c : Nat),vs = [.int .i64 (codeI (w0 :: w1 :: xs))] ∧ xs.length = 1024 ∧ (∀ x ∈ xs,0 ≤ x ∧ x ≤ 255) ∧ L.val = .pointer (some ⟨F,0,none⟩) ∧
  Go.Proofs.YtbegodiligmphaaGreatDoor.Blk w F tF (flC I W c) ∧ Go.Proofs.YtbegodiligmphaaGreatDoor.Blk w I tI (bsA xs) ∧ Go.Proofs.YtbegodiligmphaaGreatDoor.Blk w W tW #[.int .i64 w0,.int .i64 w1] ∧ I ≠ F ∧ I ≠ W ∧ F ≠ W ∧ ∀ x,L.own x ↔ x = F ∨ x = I ∨ x = W
theorem FlRel.keep {vs : List Value} {L : Loc} {w w' : World} (h : FlRel vs L w) (_ : w.heap.size ≤ w'.heap.size) (hk : ∀ x,L.own x → w'.heap[x]? = w.heap[x]?) : FlRel vs L w' := by
 obtain ⟨xs,w0,w1,F,tF,I,tI,W,tW,c,h1,h2,h3,h4,h5,h6,h7,h8,h9,h10,h11⟩ := h
 exact ⟨xs,w0,w1,F,tF,I,tI,W,tW,c,h1,h2,h3,h4,(hk F ((h11 F).2 (.inl rfl))).trans h5,(hk I ((h11 I).2 (.inr (.inl rfl)))).trans h6,(hk W ((h11 W).2 (.inr (.inr rfl)))).trans h7,h8,h9,h10,h11⟩
def flB (q : Nat) : SB := ⟨3,[],[.int .i64 (.e q)],some 4⟩
section
variable {O : Objs} {ρ : Map} {E : Nat → Int} {w w' : World} {pre post : List SB} {nt : Nat} {L : Loc} {q q' : Nat}
theorem fl_get (hO : ∀ vs L w,O.rel 4 vs L w → FlRel vs L w) (hM : M O ρ E (pre ++ flB q :: post) w) (hL : ρ 3 = some L) : FlRel [.int .i64 (E q)] L w := by
 obtain ⟨L',vs,h1,h2,h3⟩ := hM.blk (flB q) (by simp) rfl
 simp only [flB] at h1
 obtain rfl : L = L' := by rw [hL] at h1; injection h1
 have h3 := hO _ _ _ (show O.rel 4 vs L w by simpa [flB,Objs.re] using h3)
 obtain ⟨xs,w0,w1,F,tF,I,tI,W,tW,c,rfl,h⟩ := h3
 have e : Value.int .i64 (codeI (w0 :: w1 :: xs)) = .int .i64 (E q) := h2.1
 rw [← e]
 exact ⟨xs,w0,w1,F,tF,I,tI,W,tW,c,rfl,h⟩
theorem fl_put (hO : ∀ vs L w,FlRel vs L w → O.rel 4 vs L w) (hW : WF ⟨pre ++ flB q :: post,nt⟩) (hM : M O ρ E (pre ++ flB q :: post) w) (hL : ρ 3 = some L) (hr : FlRel [.int .i64 (E q')] L w') (hq : w.heap.size ≤ w'.heap.size)
  (hk : ∀ x,x < w.heap.size → ¬ L.own x → w'.heap[x]? = w.heap[x]?) (hio : Go.RowKit.Below 0 w w') : M O ρ E (pre ++ flB q' :: post) w' ∧ Ext ρ ρ ⟨pre ++ flB q :: post,nt⟩ ⟨pre ++ flB q' :: post,nt⟩ w w' := by
 have h0 : flB q ∈ pre ++ flB q :: post := by simp
 have hmem : ∀ b ∈ pre ++ flB q' :: post,b = flB q' ∨ (b ∈ pre ++ flB q :: post ∧ b.id ≠ 3) := fun b hb=>by
  rcases List.mem_append.1 hb with hb | hb
  ·right
   refine ⟨by simp [hb],fun e=>?_⟩
   obtain ⟨p1,_,p3⟩ := List.pairwise_append.1 hW.1
   have := p3 b hb (flB q) (by simp)
   simp only [flB] at this; omega
  ·rcases List.mem_cons.1 hb with rfl | hb
   ·exact .inl rfl
   ·right
    refine ⟨by simp [hb],fun e=>?_⟩
    obtain ⟨_,p2,_⟩ := List.pairwise_append.1 hW.1
    have := (List.pairwise_cons.1 p2).1 b hb
    simp only [flB] at this; omega
 have hother : ∀ b ∈ pre ++ flB q :: post,b.id ≠ 3 → allC E b.cs = true → ∀ B,ρ b.id = some B → ∀ x,B.own x → x < w.heap.size ∧ ¬ L.own x := fun b hb hne hc B hB x hx =>
  ⟨hM.low b hb hc B hB x hx,fun h=>hM.disj b hb (flB q) h0 hc rfl hne B L hB hL x hx h⟩
 refine ⟨⟨fun b hb hc=>?_,fun b hb b' hb' hc hc' hne B B' hB hB' x hx hx'=>?_,fun b hb hc B hB x hx=>?_⟩,⟨Lk.rfl',hq,fun n hn h=>?_,fun _=>.inr rfl,fun _ _ _ h=>absurd rfl h,hio⟩⟩
 ·rcases hmem b hb with rfl | ⟨hb,hne⟩
  ·refine ⟨L,[.int .i64 (E q')],hL,⟨rfl,trivial⟩,?_⟩
   simp only [flB,Objs.re]
   rw [if_neg (by decide)]
   exact hO _ _ _ hr
  ·exact (hM.blk b hb hc).keep hq fun B hB x hx=>by
    obtain ⟨h1,h2⟩ := hother b hb hne hc B hB x hx
    exact hk x h1 h2
 ·rcases hmem b hb with rfl | ⟨hb1,hn1⟩ <;> rcases hmem b' hb' with rfl | ⟨hb2,hn2⟩
  ·exact hne rfl
  ·obtain rfl : L = B := by simp only [flB] at hB; rw [hL] at hB; injection hB
   exact (hother b' hb2 hn2 hc' B' hB' x hx').2 hx
  ·obtain rfl : L = B' := by simp only [flB] at hB'; rw [hL] at hB'; injection hB'
   exact (hother b hb1 hn1 hc B hB x hx).2 hx'
  ·exact hM.disj b hb1 b' hb2 hc hc' hne B B' hB hB' x hx hx'
 ·rcases hmem b hb with rfl | ⟨hb1,hn1⟩
  ·obtain rfl : L = B := by simp only [flB] at hB; rw [hL] at hB; injection hB
   have := hM.low (flB q) h0 rfl L hL x hx
   omega
  ·have := hM.low b hb1 hc B hB x hx
   omega
 ·exact hk n hn (fun hx=>h (flB q) h0 L hL hx)
end
def flMem (q : Nat) : List SB := flB q :: tabs3
noncomputable def byteF (i : Nat) (xs : List Int) : Int := ((decI (xs.getD 1 0)).drop 2).getD ((xs.getD 0 0).toNat * 64 + (i - 2)) 0
def downFl : MS := { args := [.a (.one (.opq 3))],mem := flMem 0,nt := 4,ob := obN,k := 1,dom := [],out := .a (.one (.bool (.c 0))),mem' := flMem 0,nt' := 4,F := fun _ _=>0,iv := fun _=>(1,0),gl := [0,1,2] }
def pagesFl : MS := { args := [.a (.one (.opq 3))],mem := flMem 0,nt := 4,ob := obN,k := 1,dom := [],out := .a (.one (.int .i64 (.c 8))),mem' := flMem 0,nt' := 4,F := fun _ _=>0,iv := fun _=>(1,0),gl := [0,1,2] }
def blocksFl : MS := { args := [.a (.one (.opq 3))],mem := flMem 0,nt := 4,ob := obN,k := 1,dom := [],out := .a (.one (.int .i64 (.c 2))),mem' := flMem 0,nt' := 4,F := fun _ _=>0,iv := fun _=>(1,0),gl := [0,1,2] }
def u8E (a n : Nat) : List Leaf := (List.range' a n).map fun i=>.int .u8 (.e i)
noncomputable def readFl : MS := { args := [.a (.one (.opq 3)),.a (.one (.int .i64 (.e 0)))],mem := flMem 1,nt := 4,ob := obN,k := 2,dom := [(0,0,15)],out := .tup [.one (.sla 4 0 64),.one .nilI],mem' := ⟨4,[],u8E 2 64,none⟩ :: flMem 1,nt' := 5,F := byteF,iv := fun _=>(0,255),gl := [0,1,2] }
noncomputable def progF (i : Nat) (xs : List Int) : Int :=
 let b := (decI (xs.getD 65 0)).drop 2
 let ys := (xs.drop 1).take 64
 if i = 66 then ofB (isBlank b (xs.getD 0 0).toNat) else codeI ((decI (xs.getD 65 0)).take 2 ++ if isBlank b (xs.getD 0 0).toNat then wrote b ys (xs.getD 0 0).toNat 64 else b)
noncomputable def programFl : MS := { args := [.a (.one (.opq 3)),.a (.one (.int .i64 (.e 0))),.a (.one (.sla 4 0 64))],mem := ⟨4,[],u8E 1 64,none⟩ :: flMem 65,nt := 5,ob := obN,k := 66,dom := (0,0,15) :: (List.range' 1 64).map fun i=>(i,0,255),out := .a (.one (.mix (.e 66) .nilI (.ifc 116 (.int .i64 (.c 12))))),mem' := ⟨4,[],u8E 1 64,none⟩ :: flMem 67,nt' := 5,F := progF,iv := fun i=>if i = 66 then (0,1) else (1,0),gl := [0,1,2] }
noncomputable def eraseF (_ : Nat) (xs : List Int) : Int :=
 let l := decI (xs.getD 1 0)
 let b := (xs.getD 0 0).toNat
 codeI ((if b = 0 then [wrap64 (l.getD 0 0 + 1),l.getD 1 0] else [l.getD 0 0,wrap64 (l.getD 1 0 + 1)]) ++ ers (l.drop 2) b 512)
noncomputable def eraseFl : MS := { args := [.a (.one (.opq 3)),.a (.one (.int .i64 (.e 0)))],mem := flMem 1,nt := 4,ob := obN,k := 2,dom := [(0,0,1)],out := .a (.one .nilI),mem' := flMem 2,nt' := 4,F := eraseF,iv := fun _=>(1,0),gl := [0,1,2] }
theorem wfFl (q : Nat) : WF ⟨flMem q,4⟩ := by
 refine ⟨List.pairwise_cons.2 ⟨fun c hc=>?_,by decide⟩,fun c hc=>?_⟩
 ·have h3 : ∀ c ∈ tabs3,c.id < 3 := by decide
  exact h3 c hc
 ·rcases List.mem_cons.1 hc with rfl | hc
  ·exact (by decide : 3 < 4)
  ·have h3 : ∀ c ∈ tabs3,c.id < 4 := by decide
   exact h3 c hc
section
variable {O : Objs} {C : Cx} (hP : C.P = Tryz.prog) (hgl : ∀ gl id,C.glob gl = some id → id ∈ [0,1,2]) (hO : ∀ vs L w,O.rel 4 vs L w ↔ FlRel vs L w)
include hP hgl hO
theorem flLook {f : FuncId} {o : SV} {r : Value} (hbody : ∃ fn b,Tryz.prog.funcs[f]? = some fn ∧ fn.body = some b) (ho : ∀ ρ E,o.sat ρ E r)
  (hw : ∀ (w : World) (F tF I W c : Nat),Go.Proofs.YtbegodiligmphaaGreatDoor.Blk w F tF (flC I W c) → Calls Tryz.prog f #[.pointer (some ⟨F,0,none⟩)] w fun e w'=>e = .returned r ∧ w = w') :
  ∀ I X E,CtrOk C O I X E f (MS.ctr { args := [.a (.one (.opq 3))],mem := flMem 0,nt := 4,ob := obN,k := 1,dom := [],out := o,mem' := flMem 0,nt' := 4,F := fun _ _=>0,iv := fun _=>(1,0),gl := [0,1,2] }) := by
 refine MS.of _ (by rw [hP]; exact hbody) (wfFl 0) (Nat.le_refl _) (by show 4 ≤ 1000000; decide) hgl (fun b hb=>.inl ⟨b,hb,rfl⟩) fun xs hl hd Ef h1 h2 ρ vs w hs hG hM hF=>?_
 match vs,hs with
 | [v0],⟨⟨L,hL,hv,_⟩,_⟩ =>
  obtain ⟨xs',w0,w1,F,tF,I,tI,W,tW,c,_,_,_,e4,e5,_⟩ := fl_get (pre := []) (fun vs L w=>(hO vs L w).1) hM hL
  rw [hP,hv,e4]
  refine Calls.mono (hw w F tF I W c e5) fun e w' he=>?_
  obtain ⟨rfl,rfl⟩ := he
  exact ⟨ρ,r,rfl,ho _ _,hM,Ext.rfl'⟩
theorem downFl_ok : ∀ I X E,CtrOk C O I X E 184 downFl.ctr := flLook hP hgl hO ⟨_,_,Tryz.func184,rfl⟩ (r := .bool false) (fun _ _=>rfl) fun _w _ _ _ _ _ h=>flDown h
theorem pagesFl_ok : ∀ I X E,CtrOk C O I X E 188 pagesFl.ctr := flLook hP hgl hO ⟨_,_,Tryz.func188,rfl⟩ (r := .int .i64 8) (fun _ _=>rfl) fun _w _ _ _ _ _ h=>flPages h
theorem blocksFl_ok : ∀ I X E,CtrOk C O I X E 186 blocksFl.ctr := flLook hP hgl hO ⟨_,_,Tryz.func186,rfl⟩ (r := .int .i64 2) (fun _ _=>rfl) fun _w _ _ _ _ _ h=>flBlocks h
theorem eraseFl_ok : ∀ I X E,CtrOk C O I X E 170 eraseFl.ctr := by
 refine MS.of _ (by rw [hP]; exact ⟨_,_,Tryz.func170,rfl⟩) (wfFl 1) (Nat.le_refl _) (by show 4 ≤ 1000000; decide) hgl (fun b hb=>?_) fun xs hl hd Ef h1 h2 ρ vs w hs hG hM hF=>?_
 ·rcases List.mem_cons.1 hb with rfl | hb
  ·exact .inl ⟨_,List.mem_cons_self,rfl⟩
  ·exact .inl ⟨b,List.mem_cons_of_mem _ hb,rfl⟩
 match vs,hs with
 | [v0,v1],⟨⟨L,hL,hv,_⟩,hv1,_⟩ =>
  have hd0 : (0 : Int) ≤ xs.getD 0 0 ∧ xs.getD 0 0 ≤ 1 := hd (0,0,1) (by simp [eraseFl])
  have q0 : Ef 0 = xs.getD 0 0 := h1 0 (by show 0 < 2; decide)
  have q1 : Ef 1 = xs.getD 1 0 := h1 1 (by show 1 < 2; decide)
  obtain ⟨xs',w0,w1,F,tF,I,tI,W,tW,c,e1,e2,e3,e4,e5,e6,e7,e8,e9,e10,e11⟩ := fl_get (pre := []) (fun vs L w=>(hO vs L w).1) hM hL
  have e1 : Ef 1 = codeI (w0 :: w1 :: xs') := by simpa using e1
  obtain ⟨b,hb⟩ : ∃ b : Nat,xs.getD 0 0 = b := ⟨(xs.getD 0 0).toNat,by omega⟩
  have hv1 : v1 = .int .i64 b := by
   have : v1 = .int .i64 (Ef 0) := hv1
   rw [this,q0,hb]
  rw [hP,hv,e4,hv1]
  refine Calls.mono (flErase e5 e6 e2 e7 e9 e10 (b := b) (by omega)) fun e w' he=>?_
  obtain ⟨rfl,k1,k2,v,k3,k4⟩ := he
  have hz : Ef 2 = codeI ((if b = 0 then [wrap64 (w0 + 1),w1] else [w0,wrap64 (w1 + 1)]) ++ ers xs' b 512) := by
   rw [h2 2 (by show 2 ≤ 2; decide)]
   show clampI 1 0 (eraseF 2 xs) = _
   unfold eraseF
   rw [← q1,e1,dec_code,hb]
   simp [clampI]
  have hrng : ∀ j,∀ x ∈ ers xs' b j,0 ≤ x ∧ x ≤ 255 := fun j=>by
   induction j with
   | zero=>exact e3
   | succ j ih =>
    intro x hx
    rcases List.mem_or_eq_of_mem_set hx with h | rfl
    ·exact ih x h
    ·omega
  have hheap : ∀ x,x < w.heap.size → x ≠ I → x ≠ W → w'.heap[x]? = w.heap[x]? := fun x h1 h2 h3 =>
   (k4.block x (Nat.lt_of_lt_of_le h1 k3.size) (by simp; exact h2)).trans (k3.block x h1 (by simp; exact h3))
  have hrel : FlRel [.int .i64 (Ef 2)] L w' := by
   rcases Nat.eq_zero_or_pos b with h0 | h0
   ·subst h0
    refine ⟨ers xs' 0 512,wrap64 (w0 + 1),w1,F,tF,I,tI,W,tW,c,by rw [hz,if_pos rfl,List.cons_append,List.cons_append,List.nil_append],by rw [ers_len]; exact e2,hrng _,e4,(hheap F e5.lt (fun h=>e8 h.symm) e10).trans e5,k1,?_,e8,e9,e10,e11⟩
    rw [if_pos rfl] at k2
    exact k2
   ·have hb0 : ¬ b = 0 := by omega
    refine ⟨ers xs' b 512,w0,wrap64 (w1 + 1),F,tF,I,tI,W,tW,c,by rw [hz,if_neg hb0,List.cons_append,List.cons_append,List.nil_append],by rw [ers_len]; exact e2,hrng _,e4,(hheap F e5.lt (fun h=>e8 h.symm) e10).trans e5,k1,?_,e8,e9,e10,e11⟩
    rw [if_neg hb0] at k2
    exact k2
  obtain ⟨m1,m2⟩ := fl_put (pre := []) (q := 1) (q' := 2) (nt := 4) (fun vs L w=>(hO vs L w).2) (wfFl 1) hM hL hrel (Nat.le_trans k3.size k4.size) (fun x hx ho=>hheap x hx (fun h=>ho ((e11 x).2 (.inr (.inl h)))) (fun h=>ho ((e11 x).2 (.inr (.inr h)))))
   ⟨k4.os.trans k3.os,k4.tape.trans k3.tape,k4.output.trans k3.output,Nat.le_trans k3.size k4.size,fun k h=>absurd h (Nat.not_lt_zero k)⟩
  exact ⟨ρ,_,rfl,rfl,m1,m2⟩
theorem readFl_ok : ∀ I X E,CtrOk C O I X E 189 readFl.ctr := by
 refine MS.of _ (by rw [hP]; exact ⟨_,_,Tryz.func189,rfl⟩) (wfFl 1) (Nat.le_succ _) (by show 5 ≤ 1000000; decide) hgl (fun b hb=>?_) fun xs hl hd Ef h1 h2 ρ vs w hs hG hM hF=>?_
 ·rcases List.mem_cons.1 hb with rfl | hb
  ·exact .inr ⟨(by decide : 4 ≤ 4),(by decide : 4 < 5)⟩
  ·exact .inl ⟨b,hb,rfl⟩
 match vs,hs with
 | [v0,v1],⟨⟨L,hL,hv,_⟩,hv1,_⟩ =>
  have hd0 : (0 : Int) ≤ xs.getD 0 0 ∧ xs.getD 0 0 ≤ 15 := hd (0,0,15) (by simp [readFl])
  have q0 : Ef 0 = xs.getD 0 0 := h1 0 (by show 0 < 2; decide)
  have q1 : Ef 1 = xs.getD 1 0 := h1 1 (by show 1 < 2; decide)
  obtain ⟨xs',w0,w1,F,tF,I,tI,W,tW,c,e1,e2,e3,e4,e5,e6,e7,e8,e9,e10,e11⟩ := fl_get (pre := []) (fun vs L w=>(hO vs L w).1) hM hL
  have e1 : Ef 1 = codeI (w0 :: w1 :: xs') := by simpa using e1
  obtain ⟨k,hk⟩ : ∃ k : Nat,xs.getD 0 0 = k := ⟨(xs.getD 0 0).toNat,by omega⟩
  have hv1 : v1 = .int .i64 k := by
   have : v1 = .int .i64 (Ef 0) := hv1
   rw [this,q0,hk]
  rw [hP,hv,e4,hv1]
  refine Calls.mono (flRead e5 e6 e2 (k := k) (by omega)) fun e w' he=>?_
  obtain ⟨g,cap,cur,rfl,k1,k2,k3,k4,k5,k6⟩ := he
  have hq : Quiet w w' := ⟨k6.os,k6.tape,k6.output,k6.size,fun x hx=>k6.block x hx (by simp)⟩
  have hg : g < w'.heap.size := (Array.getElem?_eq_some_iff.1 k3).1
  have hbyte : ∀ j,j < 64 → (∃ n,cur.toList[j]? = some (.int .u8 n) ∧ n = Ef (2 + j)) := fun j hj=>by
   have hjj : k * 64 + j < xs'.length := by omega
   refine ⟨xs'.getD (k * 64 + j) 0,?_,?_⟩
   ·have : (cur.toList.take 64)[j]? = cur.toList[j]? := by rw [List.getElem?_take,if_pos hj]
    rw [← this,k5,List.getElem?_map,List.getElem?_take,if_pos hj,List.getElem?_drop,List.getD_eq_getElem?_getD,List.getElem?_eq_getElem hjj]
    rfl
   ·rw [h2 (2 + j) (by show 2 ≤ 2 + j; omega)]
    show _ = clampI 0 255 (byteF (2 + j) xs)
    have hb : byteF (2 + j) xs = xs'.getD (k * 64 + j) 0 := by
     unfold byteF
     rw [← q1,e1,dec_code,hk]
     simp only [Int.toNat_natCast,List.drop_succ_cons,List.drop_zero]
     rw [show 2 + j - 2 = j by omega]
    rw [hb]
    have := e3 (xs'.getD (k * 64 + j) 0) (by rw [List.getD_eq_getElem?_getD,List.getElem?_eq_getElem hjj,Option.getD_some]; exact List.getElem_mem hjj)
    unfold clampI
    rw [if_neg (by omega),if_pos this]
  have hsat : ∀ (n a : Nat) (vs : List Value),(∀ j,j < n → ∃ m,vs[j]? = some (.int .u8 m) ∧ m = Ef (a + j)) → sats (more ρ 4 ⟨g,cap,fun x=>x = g,tyV 5⟩) Ef (u8E a n) vs := fun n=>by
   induction n with
   | zero=>intro a vs _; trivial
   | succ n ih =>
    intro a vs h
    cases vs with
    | nil=>obtain ⟨m,h,_⟩ := h 0 (by omega); simp at h
    | cons v vs =>
     have e : u8E a (n + 1) = .int .u8 (.e a) :: u8E (a + 1) n := rfl
     rw [e]
     refine ⟨?_,ih (a + 1) vs fun j hj=>?_⟩
     ·obtain ⟨m,h,hm⟩ := h 0 (by omega)
      simp only [List.getElem?_cons_zero,Option.some.injEq] at h
      rw [h,hm]; rfl
     ·obtain ⟨m,h,hm⟩ := h (j + 1) (by omega)
      exact ⟨m,by simpa using h,by rw [hm]; congr 1; omega⟩
  have hblk : Blk O (more ρ 4 ⟨g,cap,fun x=>x = g,tyV 5⟩) Ef ⟨4,[],u8E 2 64,none⟩ w' := ⟨⟨g,cap,fun x=>x = g,tyV 5⟩,cur.toList,more_self,hsat 64 2 cur.toList hbyte,fun _=>Iff.rfl,by simpa using k4,5,by rw [k3],rfl⟩
  obtain ⟨m1,m2⟩ := new1 hM (wfFl 1) hF hq hblk (fun x hx=>by rw [hx]; exact ⟨k1,hg⟩)
  exact ⟨_,_,rfl,⟨_,rfl,⟨⟨g,cap,fun x=>x = g,tyV 5⟩,cap,more_self,k2,rfl⟩,rfl,trivial⟩,m1,m2⟩
theorem programFl_ok : ∀ I X E,CtrOk C O I X E 171 programFl.ctr := by
 have hW : WF ⟨⟨4,[],u8E 1 64,none⟩ :: flMem 65,5⟩ := ⟨List.pairwise_cons.2 ⟨fun b hb=>by have := (wfFl 65).2 b hb; show b.id < 4; exact this,(wfFl 65).1⟩,fun b hb=>by
  rcases List.mem_cons.1 hb with rfl | hb
  ·show 4 < 5; omega
  ·have := (wfFl 65).2 b hb; show b.id < 5; simp only at this; omega⟩
 refine MS.of _ (by rw [hP]; exact ⟨_,_,Tryz.func171,rfl⟩) hW (Nat.le_refl _) (by show 5 ≤ 1000000; decide) hgl (fun b hb=>?_) fun xs hl hd Ef h1 h2 ρ vs w hs hG hM hF=>?_
 ·rcases List.mem_cons.1 hb with rfl | hb
  ·exact .inl ⟨_,List.mem_cons_self,rfl⟩
  ·rcases List.mem_cons.1 hb with rfl | hb
   ·exact .inl ⟨flB 65,List.mem_cons_of_mem _ List.mem_cons_self,rfl⟩
   ·exact .inl ⟨b,List.mem_cons_of_mem _ (List.mem_cons_of_mem _ hb),rfl⟩
 match vs,hs with
 | [v0,v1,v2],⟨⟨L,hL,hv,_⟩,hv1,hv2,_⟩ =>
  obtain ⟨L4,cb,hL4,hcb,hv2⟩ := hv2
  change xs.length = 66 at hl
  have hd0 : (0 : Int) ≤ xs.getD 0 0 ∧ xs.getD 0 0 ≤ 15 := hd (0,0,15) (by simp [programFl])
  have hdb : ∀ j,j < 64 → 0 ≤ xs.getD (1 + j) 0 ∧ xs.getD (1 + j) 0 ≤ 255 := fun j hj=>hd (1 + j,0,255) (List.mem_cons_of_mem _ (List.mem_map.2 ⟨1 + j,by simp; omega,rfl⟩))
  have q0 : Ef 0 = xs.getD 0 0 := h1 0 (by show 0 < 66; decide)
  have q1 : Ef 65 = xs.getD 65 0 := h1 65 (by show 65 < 66; decide)
  obtain ⟨xs',w0,w1,F,tF,I,tI,W,tW,c,e1,e2,e3,e4,e5,e6,e7,e8,e9,e10,e11⟩ := fl_get (pre := [⟨4,[],u8E 1 64,none⟩]) (fun vs L w=>(hO vs L w).1) hM hL
  have e1 : Ef 65 = codeI (w0 :: w1 :: xs') := by simpa using e1
  obtain ⟨k,hk⟩ : ∃ k : Nat,xs.getD 0 0 = k := ⟨(xs.getD 0 0).toNat,by omega⟩
  have hv1 : v1 = .int .i64 k := by
   have : v1 = .int .i64 (Ef 0) := hv1
   rw [this,q0,hk]
  obtain ⟨L4',cs,c1,c2,c3,c4,tB,c5,_⟩ := hM.blk ⟨4,[],u8E 1 64,none⟩ (by simp [programFl]) rfl
  simp only at c1
  rw [hL4] at c1
  obtain rfl : L4 = L4' := by injection c1
  have hcell : ∀ (n a : Nat) (cs : List Value),sats ρ Ef (u8E a n) cs → ∀ j,j < n → cs[j]? = some (.int .u8 (Ef (a + j))) := fun n=>by
   induction n with
   | zero=>intro a cs _ j hj; omega
   | succ n ih =>
    intro a cs h j hj
    cases cs with
    | nil=>exact h.elim
    | cons v cs =>
     have e : u8E a (n + 1) = .int .u8 (.e a) :: u8E (a + 1) n := rfl
     rw [e] at h
     cases j with
     | zero =>
      have : v = .int .u8 (Ef a) := h.1
      rw [this]; rfl
     | succ j =>
      have := ih (a + 1) cs h.2 j (by omega)
      simp only [List.getElem?_cons_succ,this]
      congr 3; omega
  let ys := (xs.drop 1).take 64
  have hys : ∀ j,j < 64 → ys.getD j 0 = xs.getD (1 + j) 0 := fun j hj=>by
   simp only [ys]
   rw [List.getD_eq_getElem?_getD,List.getD_eq_getElem?_getD,List.getElem?_take,if_pos hj,List.getElem?_drop]
  have hBc : ∀ j,j < 64 → w.cell? ⟨L4.n,j,none⟩ = some (.int .u8 (ys.getD j 0)) := fun j hj=>by
   have hB : Go.Proofs.YtbegodiligmphaaGreatDoor.Blk w L4.n tB cs.toArray := c5
   rw [hB.cell j,hys j hj]
   have := hcell 64 1 cs c2 j hj
   rw [h1 (1 + j) (by show 1 + j < 66; omega)] at this
   simpa using this
  have hne4 : ∀ x,L.own x → x ≠ L4.n := fun x hx e=>hM.disj ⟨4,[],u8E 1 64,none⟩ (by simp [programFl]) (flB 65) (by simp [programFl,flMem]) rfl rfl (by show 4 ≠ 3; decide) L4 L hL4 hL x ((c3 x).2 e) hx
  rw [hP,hv,e4,hv1,hv2]
  refine Calls.mono (flProgram (ys := ys) e5 e6 e2 hBc (hne4 I ((e11 I).2 (.inr (.inl rfl)))) e8 (k := k) (by omega)) fun e w' he=>?_
  obtain ⟨rfl,k1,k2⟩ := he
  have hz1 : Ef 66 = ofB (isBlank xs' k) := by
   rw [h2 66 (by show 66 ≤ 66; decide)]
   show clampI 0 1 (progF 66 xs) = _
   have : progF 66 xs = ofB (isBlank xs' k) := by
    unfold progF
    rw [← q1,e1,dec_code,hk]
    simp
   rw [this]
   cases isBlank xs' k <;> rfl
  have hz2 : Ef 67 = codeI (w0 :: w1 :: if isBlank xs' k then wrote xs' ys k 64 else xs') := by
   rw [h2 67 (by show 66 ≤ 67; decide)]
   show clampI 1 0 (progF 67 xs) = _
   unfold progF
   rw [← q1,e1,dec_code,hk]
   simp [clampI,ys]
  have hrng : ∀ j,j ≤ 64 → ∀ x ∈ wrote xs' ys k j,0 ≤ x ∧ x ≤ 255 := fun j=>by
   induction j with
   | zero=>intro _; exact e3
   | succ j ih =>
    intro hj x hx
    rcases List.mem_or_eq_of_mem_set hx with h | rfl
    ·exact ih (by omega) x h
    ·rw [hys j (by omega)]; exact hdb j (by omega)
  have hheap : ∀ x,x < w.heap.size → x ≠ I → w'.heap[x]? = w.heap[x]? := fun x h1 h2=>k2.block x h1 (by simp; exact h2)
  have hrel : FlRel [.int .i64 (Ef 67)] L w' := by
   refine ⟨if isBlank xs' k then wrote xs' ys k 64 else xs',w0,w1,F,tF,I,tI,W,tW,c,by rw [hz2],?_,?_,e4,(hheap F e5.lt (fun h=>e8 h.symm)).trans e5,k1,(hheap W e7.lt (fun h=>e9 h.symm)).trans e7,e8,e9,e10,e11⟩
   ·split
    ·rw [wrote_len]; exact e2
    ·exact e2
   ·split
    ·exact hrng 64 (Nat.le_refl _)
    ·exact e3
  obtain ⟨m1,m2⟩ := fl_put (pre := [⟨4,[],u8E 1 64,none⟩]) (q := 65) (q' := 67) (nt := 5) (fun vs L w=>(hO vs L w).2) hW hM hL hrel k2.size (fun x hx ho=>hheap x hx (fun h=>ho ((e11 x).2 (.inr (.inl h)))))
   ⟨k2.os,k2.tape,k2.output,k2.size,fun k h=>absurd h (Nat.not_lt_zero k)⟩
  refine ⟨ρ,_,rfl,?_,m1,m2⟩
  show (truth (Ef 66) = true → _) ∧ (truth (Ef 66) = false → _)
  rw [hz1,truth_ofB]
  cases isBlank xs' k with
  | true=>exact ⟨fun _=>rfl,fun h=>(by cases h)⟩
  | false=>exact ⟨fun h=>(by cases h),fun _=>⟨_,rfl,rfl⟩⟩
end
end
end Go.Proofs.YtbegodiligmphaaGreatDoor.Sy
namespace Go.Proofs.YtbegodiligmphaaGreatDoor
open Go Go.RowKit
section
variable {P : Program} {ops : Array Oper} {Q : Exit → Act → World → Prop} {md : Region.Mode}
def yvUpon (P : Program) (w : World) (v : Value) : Result Next → Prop
 | .ok (.value u) w'=>w' = w ∧ u = v
 | .ok .skip w'=>w' = w ∧ undef = v
 | .ok (.enter f args) w'=>w' = w ∧ Calls P f args w (fun e w''=>e = .returned v ∧ w'' = w)
 | _=>False
def yv (P : Program) (o : Oper) (a : Act) (w : World) (v : Value) : Prop := yvUpon P w v ((execOp a.eval o).run P w)
theorem yieldsAt_yv {w : World} {o : Oper} {v : Value} {a : Act} (hw : Region.wanted o (yielded ops a.tmps) = true) (h : yv P o a w v) : YieldsAt P ops w o v a := by
 unfold yv at h
 refine .inl ⟨hw,?_⟩
 generalize (execOp a.eval o).run P w = r at h ⊢
 cases r with
 | ok n w' =>
  cases n <;> simp only [yvUpon] at h
  case value u=>obtain ⟨rfl,rfl⟩ := h; exact .inl rfl
  case skip=>obtain ⟨rfl,rfl⟩ := h; exact .inr (.inl ⟨rfl,rfl⟩)
  case enter f args=>obtain ⟨rfl,h2⟩ := h; exact .inr (.inr ⟨f,args,rfl,h2⟩)
 | halt x w'=>simp only [yvUpon] at h
theorem wpOp_eff {i : Nat} {o : Oper} (ho : ops[i]? = some o) {K : Act → World → Prop} {a : Act} {w : World} (h : wpOp P ops Q i K a w) :
  wpOp P ops Q i (fun a' w'=>(∃ u d,a' = Act.put { a with defers := d } o.dst u) ∧ K a' w') a w := by
 unfold wpOp at h ⊢
 simp only [ho] at h ⊢
 split
 ·rename_i hw
  simp only [hw,if_true] at h
  refine h.imp (fun h=>?_) id
  unfold Oper.wp at h ⊢
  generalize (execOp a.eval o).run P w = r at h ⊢
  cases r with
  | ok n w' =>
   cases n <;> simp only [Oper.upon] at h ⊢
   case value u=>exact ⟨⟨u,a.defers,rfl⟩,h⟩
   case skip=>exact ⟨⟨undef,a.defers,rfl⟩,h⟩
   case defer d=>exact ⟨⟨undef,d :: a.defers,rfl⟩,h⟩
   case enter f args =>
    refine Calls.mono h fun e w'' he=>?_
    cases e with
    | returned u=>exact ⟨⟨u,a.defers,rfl⟩,he⟩
    | panicked c=>exact he
    | outgrown=>exact he
   case row row args=>exact Rows.mono h fun u w'' he=>⟨⟨u,a.defers,rfl⟩,he⟩
  | halt x w'=>cases x <;> simp only [Oper.upon] at h ⊢ <;> exact h
 ·rename_i hw
  simp only [hw] at h
  exact ⟨⟨undef,a.defers,rfl⟩,h⟩
theorem wpOp_set {j : Nat} {oi oj : Oper} {v : Value} (hj : ops[j]? = some oj) (hap : oi.apart ops oj = true) (hsj : ∀ cs b,oj.op ≠ .select cs b)
  (hQ : ∀ c a w,Q (.panic c) (a.put oi.dst v) w → Q (.panic c) a w) {K : Act → World → Prop} {a : Act} {w : World} (h : wpOp P ops Q j K (a.put oi.dst v) w) :
  wpOp P ops Q j (fun a' w'=>(∃ u d,a' = Act.put { a with defers := d } oj.dst u) ∧ K (a'.put oi.dst v) w') a w := by
 have hap' : ({ oi with op := .move (.const v),guard := none } : Oper).apart ops oj = true := by
  unfold Oper.apart at hap ⊢
  simp only [Bool.and_eq_true] at hap ⊢
  exact ⟨hap.1,by cases oj.dst <;> simp [Oper.looksAt,Op.operands]⟩
 have hy : Yields P ops { oi with op := .move (.const v),guard := none } v a := .inl ⟨by simp [Region.wanted],fun w=>BigFrame.run_move (.const v) rfl w⟩
 have := wpOp_put (oi := { oi with op := .move (.const v),guard := none }) hj hap' (fun _ _ h=>by cases h) hsj hQ hy h
 exact wpOp_mono (fun a' w' h=>⟨h.1,h.2.2⟩) (wpOp_eff hj this)
def mildUpon (P : Program) (B : Nat) (o : Oper) (a : Act) (w : World) (next : Act → World → Prop) : Result Next → Prop
 | .ok (.value v) w'=>Below B w w' ∧ next (a.put o.dst v) w'
 | .ok (.enter f args) w'=>w' = w ∧ Calls P f args w (fun e w''=>∃ v,e = .returned v ∧ Below B w w'' ∧ next (a.put o.dst v) w'')
 | _=>False
def mild (P : Program) (B : Nat) (o : Oper) (a : Act) (w : World) (next : Act → World → Prop) : Prop := mildUpon P B o a w next ((execOp a.eval o).run P w)
theorem mild_wp {B : Nat} {o : Oper} {a : Act} {w : World} {K : Act → World → Prop} (h : mild P B o a w K) : o.wp P a w (fun a' w'=>Below B w w' ∧ K a' w') Q := by
 unfold mild at h
 unfold Oper.wp
 generalize (execOp a.eval o).run P w = r at h ⊢
 cases r with
 | ok n w' =>
  cases n <;> simp only [mildUpon] at h
  case value v=>simp only [Oper.upon]; exact h
  case enter f args =>
   obtain ⟨rfl,h⟩ := h
   simp only [Oper.upon]
   exact Calls.mono h fun e w'' ⟨v,he,hb,hn⟩=>by subst he; exact ⟨hb,hn⟩
 | halt x w'=>simp only [mildUpon] at h
end
end Go.Proofs.YtbegodiligmphaaGreatDoor
namespace Go.Proofs.YtbegodiligmphaaGreatDoor
open Go Go.RowKit
section
variable {P : Program} {ops : Array Oper} {Q : Exit → Act → World → Prop} {md : Region.Mode} {H M : Nat → Bool} {B : Nat}
def wpX (P : Program) (md : Region.Mode) (ops : Array Oper) (Q : Exit → Act → World → Prop) (H M : Nat → Bool) (B : Nat) : Nat → Array Bool → Act → World → Prop
 | 0,listed,a,w=>Region.ready md ops listed = [] ∧ Q .normal a w
 | f + 1,listed,a,w=>(Region.ready md ops listed = [] → Q .normal a w) ∧ ∀ i ∈ Region.ready md ops listed,
   (H i = false → stOp P ops w i (fun a'=>wpX P md ops Q H M B f (listed.setIfInBounds i true) a' w) a) ∧
   (H i = true → wpOp P ops Q i (fun a' w'=>(M i = true → Below B w w') ∧ wpX P md ops Q H M B f (listed.setIfInBounds i true) a' w') a w)
theorem wpX_any : ∀ (f : Nat) (listed : Array Bool) (a : Act) (w : World),wpX P md ops Q H M B f listed a w → wpAny P md ops Q f listed a w
 | 0,_,_,_,h=>h
 | f + 1,listed,a,w,h=>⟨h.1,fun i hi=>by
   cases hH : H i with
   | false=>exact wpOp_of_stOp (fun a' h'=>wpX_any f _ a' w h') ((h.2 i hi).1 hH)
   | true=>exact wpOp_mono (fun a' w' h'=>wpX_any f _ a' w' h'.2) ((h.2 i hi).2 hH)⟩
theorem wpX_first {i F : Nat} {oi : Oper} {v : Value} (hi : ops[i]? = some oi) (hsel : ∀ (j : Nat) (o : Oper) cs b,ops[j]? = some o → o.op ≠ .select cs b)
  (hQ : ∀ c a w,Q (.panic c) (a.put oi.dst v) w → Q (.panic c) a w) (hin : H i = false) :
  ∀ (f : Nat) (listed : Array Bool) (a : Act) (w : World),Shut md ops listed →
   (∀ j oj,ops[j]? = some oj → j ≠ i → listed.getD j true = false → (∀ e ∈ oj.after,Region.binds md e = true → e.on ≠ i) → oi.apart ops oj = true) →
   i ∈ Region.ready md ops listed → (Yields P ops oi v a ∨ ((∀ w',Below B w w' → YieldsAt P ops w' oi v a) ∧ ∀ j,j < ops.size → H j = true → M j = false → waits md ops F j i = true)) →
   wpX P md ops Q H M B f (listed.setIfInBounds i true) (a.put oi.dst v) w → wpX P md ops Q H M B (f + 1) listed a w := by
 intro f
 induction f with
 | zero =>
  intro listed a w hc _ hr hw H'
  have hy : YieldsAt P ops w oi v a := hw.elim yieldsAt_of fun h=>h.1 w (Below.refl B w)
  refine ⟨fun h=>(by rw [h] at hr; cases hr),fun j hj=>?_⟩
  by_cases hji : j = i
  ·subst hji
   exact ⟨fun _=>hy.stOp hi H',fun h=>(by rw [hin] at h; cases h)⟩
  ·have := ready_mono hj hji
   rw [H'.1] at this; cases this
 | succ f ih =>
  intro listed a w hc hfree hr hw H'
  have hy : YieldsAt P ops w oi v a := hw.elim yieldsAt_of fun h=>h.1 w (Below.refl B w)
  refine ⟨fun h=>(by rw [h] at hr; cases hr),fun j hj=>?_⟩
  by_cases hji : j = i
  ·subst hji
   exact ⟨fun _=>hy.stOp hi H',fun h=>(by rw [hin] at h; cases h)⟩
  have hun : listed.getD i false = false := by
   have := (mem_ready.1 hr).1
   cases h : listed.getD i false with
   | false=>rfl
   | true =>
    have hlt : i < listed.size := by
     rcases Nat.lt_or_ge i listed.size with h' | h'
     ·exact h'
     ·simp [Array.getElem?_eq_none h'] at h
    simp [hlt] at this h
    rw [h] at this; cases this
  obtain ⟨hjun,oj,hoj,hall⟩ := mem_ready.1 hj
  have hno : ∀ e ∈ oj.after,Region.binds md e = true → e.on ≠ i := fun e he hb heq=>by
   have h1 := hall e he hb
   rw [heq,hun] at h1; cases h1
  have hap := hfree j oj hoj hji hjun hno
  obtain ⟨a1,a2,a3⟩ := Oper.apart_spec hap
  have hfree' : ∀ k ok,ops[k]? = some ok → k ≠ i → (listed.setIfInBounds j true).getD k true = false → (∀ e ∈ ok.after,Region.binds md e = true → e.on ≠ i) → oi.apart ops ok = true := fun k ok hk hki hkun hkno=>by
   refine hfree k ok hk hki ?_ hkno
   by_cases hjk : j = k
   ·subst hjk; exact hjun
   ·rw [getD_set_ne true hjk] at hkun; exact hkun
  have hr' := ready_mono hr (Ne.symm hji)
  have H2 := H'.2 j (ready_mono hj hji)
  have hcm : (listed.setIfInBounds i true).setIfInBounds j true = (listed.setIfInBounds j true).setIfInBounds i true := Array.setIfInBounds_comm _ _ (Ne.symm hji)
  have hsi := fun cs b=>hsel i oi cs b hi
  have hsj := fun cs b=>hsel j oj cs b hoj
  have keep : ∀ (w' : World) (u : Value) (d),YieldsAt P ops w' oi v a → YieldsAt P ops w' oi v (Act.put { a with defers := d } oj.dst u) := fun w' u d h =>
   YieldsAt.of_same (YieldsAt.of_same h (a' := { a with defers := d }) rfl rfl) (execOp_put oi hsi _ oj.dst u a3) (wanted_put oi _ oj.dst u a3)
  refine ⟨fun hjn=>?_,fun hjn=>?_⟩
  ·obtain ⟨u,hyu,hK⟩ := yieldsAt_of_stOp hoj (H2.1 hjn)
   have hyu' : YieldsAt P ops w oj u a := hyu.of_same (execOp_put oj hsj a oi.dst v a1).symm (wanted_put oj a oi.dst v a1).symm
   refine hyu'.stOp hoj (ih _ _ w (shut_set hc hj) hfree' hr' ?_ ?_)
   ·exact hw.imp (fun h=>h.of_same (execOp_put oi hsi a oj.dst u a3) (wanted_put oi a oj.dst u a3)) fun h=>⟨fun w' hb=>keep w' u a.defers (h.1 w' hb),h.2⟩
   ·rw [← hcm,← Act.put_comm a v u a2]; exact hK
  ·rcases hw with hw | ⟨hw,hwt⟩
   ·have h2 := wpOp_put hoj hap hsi hsj hQ hw (H2.2 hjn)
    refine wpOp_mono (fun a' w' h3=>⟨h3.2.1,ih _ a' w' (shut_set hc hj) hfree' hr' (.inl h3.1) ?_⟩) h2
    rw [← hcm]; exact h3.2.2
   ·have hlt : j < ops.size := (Array.getElem?_eq_some_iff.1 hoj).1
    cases hM : M j with
    | false=>exact absurd hj (waits_spec hc hun F j (hwt j hlt hjn hM)).2
    | true =>
     have h2 := wpOp_set hoj hap hsj hQ (H2.2 hjn)
     refine wpOp_mono (fun a' w' h3=>⟨fun _=>h3.2.1 hM,ih _ a' w' (shut_set hc hj) hfree' hr' (.inr ⟨fun w'' hb=>?_,hwt⟩) ?_⟩) h2
     ·obtain ⟨⟨u,d,rfl⟩,hb',_⟩ := h3
      exact keep w'' u d (hw w'' ((hb' hM).trans hb))
     ·rw [← hcm]; exact h3.2.2
def shutB (md : Region.Mode) (ops : Array Oper) (listed : Array Bool) : Bool :=
 (List.range ops.size).all fun j=>!listed.getD j false || ((ops[j]?).map fun o=>o.after.all fun e=>!Region.binds md e || listed.getD e.on false).getD true
theorem shutB_spec {listed : Array Bool} (h : shutB md ops listed = true) : Shut md ops listed := by
 intro j oj hj hl e he hb
 have h1 := List.all_eq_true.1 h j (List.mem_range.2 (Array.getElem?_eq_some_iff.1 hj).1)
 simp only [hl,Bool.not_true,Bool.false_or,hj,Option.map_some,Option.getD_some] at h1
 have h2 := Array.all_eq_true_iff_forall_mem.1 h1 e he
 simpa [hb] using h2
def takeB (md : Region.Mode) (ops : Array Oper) (H M : Nat → Bool) (listed : Array Bool) (i : Nat) : Bool :=
 shutB md ops listed && (Region.ready md ops listed).contains i && Region.free md ops listed i && !H i && Region.noSelect ops &&
 (((ops[i]?).map isMove).getD false || (List.range ops.size).all fun j=>!H j || M j || waits md ops ops.size j i)
theorem wpX_take {i : Nat} {o : Oper} {v : Value} {f : Nat} {listed : Array Bool} {a a' : Act} {w : World} (hi : ops[i]? = some o) (hg : o.guard = none) (hB : takeB md ops H M listed i = true)
  (hQ : ∀ c a w,Q (.panic c) (a.put o.dst v) w → Q (.panic c) a w) (h1 : ∀ w',Below B w w' → yv P o a w' v) (ha : a.put o.dst v = a')
  (h2 : wpX P md ops Q H M B f (listed.setIfInBounds i true) a' w) : wpX P md ops Q H M B (f + 1) listed a w := by
 simp only [takeB,Bool.and_eq_true,Bool.not_eq_true',Bool.or_eq_true,hi,Option.map_some,Option.getD_some] at hB
 obtain ⟨⟨⟨⟨⟨b1,b2⟩,b3⟩,b4⟩,b5⟩,b6⟩ := hB
 have hst : ∀ w',Below B w w' → YieldsAt P ops w' o v a := fun w' hb=>yieldsAt_yv (by simp [Region.wanted,hg]) (h1 w' hb)
 refine wpX_first (F := ops.size) hi (Region.noSelect_spec b5) hQ b4 f listed a w (shutB_spec b1) (Region.free_spec hi b3) (by simpa using b2) ?_ (ha ▸ h2)
 rcases b6 with b6 | b6
 ·exact .inl (yields_move b6 (hst w (Below.refl B w)))
 ·refine .inr ⟨hst,fun j h1 h2 h3=>?_⟩
  have := List.all_eq_true.1 b6 j (List.mem_range.2 h1)
  simpa [h2,h3] using this
theorem wpX_mild {i : Nat} {o : Oper} (hi : ops[i]? = some o) (hg : o.guard = none) {f : Nat} {listed : Array Bool} {a : Act} {w : World} (h : mild P B o a w (fun a' w'=>wpX P md ops Q H M B f listed a' w')) :
  wpOp P ops Q i (fun a' w'=>(M i = true → Below B w w') ∧ wpX P md ops Q H M B f listed a' w') a w := by
 unfold wpOp
 simp only [hi]
 rw [if_pos (by simp [Region.wanted,hg])]
 exact .inl (Oper.wp_mono (fun a' w' h'=>⟨fun _=>h'.1,h'.2⟩) (mild_wp h))
theorem wpX_one {i : Nat} {o : Oper} {f : Nat} {listed : Array Bool} {a : Act} {w : World} (hi : ops[i]? = some o) (hg : o.guard = none) (hr : (decide (Region.ready md ops listed = [i]) && H i) = true)
  (h : mild P B o a w (fun a' w'=>wpX P md ops Q H M B f (listed.setIfInBounds i true) a' w')) : wpX P md ops Q H M B (f + 1) listed a w := by
 simp only [Bool.and_eq_true,decide_eq_true_eq] at hr
 refine ⟨fun h0=>(by rw [hr.1] at h0; cases h0),fun j hj=>?_⟩
 rw [hr.1] at hj
 obtain rfl : j = i := by simpa using hj
 exact ⟨fun h0=>(by rw [hr.2] at h0; cases h0),fun _=>wpX_mild hi hg h⟩
theorem wpX_two {i k : Nat} {o u : Oper} {f : Nat} {listed : Array Bool} {a : Act} {w : World} (hi : ops[i]? = some o) (hg : o.guard = none) (hk : ops[k]? = some u) (hu : u.guard = none) (hr : (decide (Region.ready md ops listed = [i,k]) && H i && H k) = true)
  (h : mild P B o a w (fun a' w'=>wpX P md ops Q H M B f (listed.setIfInBounds i true) a' w'))
  (h' : mild P B u a w (fun a' w'=>wpX P md ops Q H M B f (listed.setIfInBounds k true) a' w')) : wpX P md ops Q H M B (f + 1) listed a w := by
 simp only [Bool.and_eq_true,decide_eq_true_eq] at hr
 refine ⟨fun h0=>(by rw [hr.1.1] at h0; cases h0),fun j hj=>?_⟩
 rw [hr.1.1] at hj
 rcases (by simpa using hj : j = i ∨ j = k) with rfl | rfl
 ·exact ⟨fun h0=>(by rw [hr.1.2] at h0; cases h0),fun _=>wpX_mild hi hg h⟩
 ·exact ⟨fun h0=>(by rw [hr.2] at h0; cases h0),fun _=>wpX_mild hk hu h'⟩
def seqX (md : Region.Mode) (ops : Array Oper) (H M : Nat → Bool) : Nat → Nat → Array Bool → Bool
 | 0,_,listed=>(Region.ready md ops listed).isEmpty
 | f + 1,k,listed=>decide (Region.ready md ops listed = [k]) && H k && !M k && seqX md ops H M f (k + 1) (listed.setIfInBounds k true)
theorem wpX_tail : ∀ (l : List Oper) (k : Nat) (listed : Array Bool) (a : Act) (w : World),(∀ j,l[j]? = ops[k + j]?) →
  seqX md ops H M l.length k listed = true → wpList P ops Q l a w → wpX P md ops Q H M B l.length listed a w
 | [],_,_,_,_,_,hB,h=>⟨by simpa [seqX] using hB,h⟩
 | o :: l,k,listed,a,w,hl,hB,h=>by
  have h0 : ops[k]? = some o := by simpa using (hl 0).symm
  simp only [List.length_cons,seqX,Bool.and_eq_true,decide_eq_true_eq,Bool.not_eq_true'] at hB
  obtain ⟨⟨⟨b1,b2⟩,b3⟩,b4⟩ := hB
  have ih : ∀ a w,wpList P ops Q l a w → wpX P md ops Q H M B l.length (listed.setIfInBounds k true) a w := fun a w =>
   wpX_tail l (k + 1) _ a w (fun j=>by have := hl (j + 1); simpa [Nat.add_assoc,Nat.add_comm 1 j] using this) b4
  refine ⟨fun hr=>(by rw [b1] at hr; cases hr),fun i hi=>?_⟩
  rw [b1] at hi
  obtain rfl : i = k := by simpa using hi
  refine ⟨fun hn=>(by rw [b2] at hn; cases hn),fun _=>?_⟩
  unfold wpOp
  simp only [h0]
  simp only [wpList] at h
  split
  ·rename_i hw
   simp only [hw,if_true] at h
   exact h.imp (Oper.wp_mono (fun a w h=>⟨fun h=>(by rw [b3] at h; cases h),ih a w h⟩)) id
  ·rename_i hw
   simp only [hw] at h
   exact ⟨fun h=>(by rw [b3] at h; cases h),ih _ _ h⟩
theorem wpX_rest {l : List Oper} {k : Nat} {listed : Array Bool} {a : Act} {w : World} (hB : seqX md l.toArray H M (l.length - k) k listed = true) (h : wpList P l.toArray Q (l.drop k) a w) : wpX P md l.toArray Q H M B (l.length - k) listed a w := by
 have := wpX_tail (B := B) (ops := l.toArray) (l.drop k) k listed a w (fun j=>by simp [List.getElem?_drop]) (by simpa using hB) h
 simpa using this
theorem wp_region_multi {id : Nat} {a : Act} {w : World} {l : List Oper} (H M : Nat → Bool) (B : Nat) (hm : P.follows .mixedOrders = true)
  (h : wpX P .any l.toArray Q H M B l.length (Array.replicate l.length false) a { w with drawn := w.drawn + 1 }) : (Code.region id l.toArray true).wp P Q a w :=
 wp_region_any hm (wpX_any _ _ _ _ (by simpa using h))
end
end Go.Proofs.YtbegodiligmphaaGreatDoor
namespace Go.Proofs.YtbegodiligmphaaGreatDoor
open Go Go.RowKit
def flNewB (j : Nat) : List Int := List.replicate j 255 ++ List.replicate (1024 - j) 0
theorem flNewB_len {j : Nat} (h : j ≤ 1024) : (flNewB j).length = 1024 := by simp only [flNewB,List.length_append,List.length_replicate]; omega
theorem flNewB_set {j : Nat} (h : j < 1024) : (flNewB j).set j 255 = flNewB (j + 1) := by
 unfold flNewB
 rw [List.set_append_right _ _ (by simp),List.length_replicate,Nat.sub_self,show 1024 - j = (1024 - (j + 1)) + 1 by omega,List.replicate_succ,List.set_cons_zero,List.replicate_succ' ,List.append_assoc]
 rfl
theorem info_of' {P : Program} {t : TypeId} {z : Value} {s b : Nat} (h : (P.info? t).map (fun i=>(i.zero,i.size,i.bytes)) = some (some z,s,b)) : ∃ i,P.info? t = some i ∧ i.zero = some z ∧ i.size = s ∧ i.bytes = b := by
 cases hi : P.info? t with
 | none=>rw [hi] at h; cases h
 | some i =>
  rw [hi] at h
  simp only [Option.map_some,Option.some.injEq,Prod.mk.injEq] at h
  exact ⟨i,rfl,h.1,h.2.1,h.2.2⟩
theorem u8Info' : (Tryz.prog.info? 5).map (fun i=>(i.zero,i.size,i.bytes)) = some (some (.int .u8 0),1,1) := by kernel_rfl
theorem intInfo' : (Tryz.prog.info? 3).map (fun i=>(i.zero,i.size,i.bytes)) = some (some (.int .i64 0),1,8) := by kernel_rfl
theorem makeImg (w : World) : (Instr.makeSlice 78 (.int .i64 1024) (.int .i64 1024)).run Tryz.prog w = .ok (.slice (some ⟨w.heap.size,0,none⟩) 1024 1024) (w.alloc (.cells (bsA (flNewB 0)) 5)) := by
 obtain ⟨i,hi,hz,hs,hb⟩ := info_of' u8Info'
 have := run_makeSlice (P := Tryz.prog) w 78 5 i (.int .u8 0) Tryz.underlying78 hi hz .i64 .i64 1024 1024 (by decide) (by decide) (by rw [hs]; decide) (by rw [hb]; decide) (by decide)
 have e : madeCells (Value.int .u8 0).cells (Int.toNat 1024 * 1) = bsA (flNewB 0) := by
  apply Array.toList_inj.1
  rw [show (Value.int .u8 0).cells = #[.int .u8 0] from rfl,toList_madeCells_one]
  simp only [bsA,flNewB,List.replicate_zero,List.nil_append,List.map_replicate,Nat.sub_zero]
  rfl
 rw [this,hs,e]
 rfl
theorem makeWear (w : World) : (Instr.makeSlice 28 (.int .i64 2) (.int .i64 2)).run Tryz.prog w = .ok (.slice (some ⟨w.heap.size,0,none⟩) 2 2) (w.alloc (.cells #[.int .i64 0,.int .i64 0] 3)) := by
 obtain ⟨i,hi,hz,hs,hb⟩ := info_of' intInfo'
 have := run_makeSlice (P := Tryz.prog) w 28 3 i (.int .i64 0) Tryz.underlying28 hi hz .i64 .i64 2 2 (by decide) (by decide) (by rw [hs]; decide) (by rw [hb]; decide) (by decide)
 have e : madeCells (Value.int .i64 0).cells (Int.toNat 2 * 1) = #[.int .i64 0,.int .i64 0] := by kernel_rfl
 rw [this,hs,e]
 rfl
set_option maxRecDepth 100000 in
set_option maxHeartbeats 800000 in
theorem flNew {w : World} : Calls Tryz.prog 15 #[.int .i64 2,.int .i64 8] w fun e w'=>∃ F I W tF tI tW,e = .returned (.tuple #[.pointer (some ⟨F,0,none⟩),.nilIface]) ∧ Blk w' F tF (flC I W 2) ∧ Blk w' I tI (bsA (flNewB 1024)) ∧ Blk w' W tW #[.int .i64 0,.int .i64 0] ∧ I ≠ F ∧ I ≠ W ∧ F ≠ W ∧ w.heap.size ≤ F ∧ w.heap.size ≤ I ∧ w.heap.size ≤ W ∧ w.grownBy w' none := by
 have hw1 := flWithin 2 1 64 (by omega) (by omega)
 have hw2 := flWithin 8 1 16 (by omega) (by omega)
 go_enter Tryz.func15,Tryz.ntmps15
 go_wp2_with (first | (go_at_call 54; with_reducible refine (hw1 _).mono ?_; rintro e w2 ⟨rfl,rfl⟩) | (go_at_call 54; with_reducible refine (hw2 _).mono ?_; rintro e w2 ⟨rfl,rfl⟩))
 refine wp_region_multi (fun i=>i == 5 || i == 7 || Nat.ble 8 i) (fun i=>i == 5 || i == 7) w.heap.size (by kernel_rfl) ?_
 apply wpX_take (i := 0) rfl rfl (by kernel_rfl) (fun _ _ _ h=>h)
 ·intro w' hb
  unfold yv
  go_simp
  simp only [yvUpon]
  exact ⟨trivial,rfl⟩
 ·go_simp
  exact rfl
 apply wpX_take (i := 1) rfl rfl (by kernel_rfl) (fun _ _ _ h=>h)
 ·intro w' hb
  unfold yv
  go_simp
  simp only [yvUpon]
  exact ⟨trivial,rfl⟩
 ·go_simp
  exact rfl
 apply wpX_take (i := 2) rfl rfl (by kernel_rfl) (fun _ _ _ h=>h)
 ·intro w' hb
  unfold yv
  go_simp
  simp only [yvUpon]
  exact ⟨trivial,rfl⟩
 ·go_simp
  exact rfl
 apply wpX_take (i := 3) rfl rfl (by kernel_rfl) (fun _ _ _ h=>h)
 ·intro w' hb
  unfold yv
  go_simp
  simp only [yvUpon]
  exact ⟨trivial,rfl⟩
 ·go_simp
  exact rfl
 apply wpX_take (i := 4) rfl rfl (by kernel_rfl) (fun _ _ _ h=>h)
 ·intro w' hb
  unfold yv
  go_simp
  simp only [yvUpon]
  exact ⟨trivial,rfl⟩
 ·go_simp
  exact rfl
 apply wpX_take (i := 6) rfl rfl (by kernel_rfl) (fun _ _ _ h=>h)
 ·intro w' hb
  unfold yv
  go_simp
  simp only [yvUpon]
  exact ⟨trivial,rfl⟩
 ·go_simp
  exact rfl
 apply wpX_two (i := 5) (k := 7) rfl rfl rfl rfl (by kernel_rfl)
 ·unfold mild
  go_simp
  rw [show IntKind.i64.wrap (IntKind.i64.wrap 16 * 64) = 1024 by decide,makeImg]
  simp only [mildUpon,Result.andThen]
  refine ⟨Below.alloc (Below.refl w.heap.size _) (by simp) _,?_⟩
  apply wpX_one (i := 7) rfl rfl (by kernel_rfl)
  unfold mild
  go_simp
  rw [makeWear]
  simp only [mildUpon,Result.andThen]
  refine ⟨Below.alloc (Below.refl w.heap.size _) (by simp) _,?_⟩
  apply wpX_rest (k := 8) (by kernel_rfl)
  have ba0 := Blk.new w 5 ((bsA (flNewB 0)))
  have bb0 := Blk.new' (w := w.alloc (.cells (bsA (flNewB 0)) 5)) (t := 3) (cs := #[.int .i64 0,.int .i64 0]) (g := w.heap.size + 1) (by simp)
  have bf := (Blk.new' (w := (w.alloc (.cells (bsA (flNewB 0)) 5)).alloc (.cells #[.int .i64 0,.int .i64 0] 3)) (t := 155) (cs := (flC w.heap.size (w.heap.size + 1) 2)) (g := w.heap.size + 1 + 1) (by simp)).drew
  have ba := ((ba0.alloc (.cells #[.int .i64 0,.int .i64 0] 3)).alloc (.cells (flC w.heap.size (w.heap.size + 1) 2) 155)).drew
  have bb := (bb0.alloc (.cells (flC w.heap.size (w.heap.size + 1) 2) 155)).drew
  clear ba0 bb0
  have hgv : Below w.heap.size w (((w.alloc (.cells (bsA (flNewB 0)) 5)).alloc (.cells #[.int .i64 0,.int .i64 0] 3)).alloc (.cells (flC w.heap.size (w.heap.size + 1) 2) 155)).drew := Below.drew (Below.alloc (Below.alloc (Below.alloc (Below.refl _ w) (by simp) _) (by simp) _) (by simp; omega) _)
  obtain ⟨y0,y1,y2,y3,y4,y5⟩ := Blk.c6 bf
  go_wp2
  generalize hv : World.drew _ = v at ba bb bf hgv y0 y1 y2 y3 y4 y5
  clear hv
  go_loopw [32] (fun i wr=>∃ j : Nat,i = .int .i64 j ∧ j ≤ 1024 ∧ Blk wr w.heap.size 5 (bsA (flNewB j)) ∧ v.grownBy wr (some w.heap.size)) (fun i _=>1024 - (intOf i).toNat)
  case atStart=>exact ⟨0,rfl,by omega,ba,grown_self v (some _)⟩
  case round =>
  obtain ⟨j,rfl,hj,hIw,hg⟩ := hrel
  by_cases hlt : j < 1024
  ·have c1 := bs_cell hIw (i := j) (by rw [flNewB_len hj]; exact hlt)
   have f1 := hIw.frozen j
   have hset := bs_set hIw j 255
   rw [flNewB_set hlt] at hset
   have hgs := grown_setCell hg (p := ⟨w.heap.size,j,none⟩) (.inl rfl) (.int .u8 255)
   have z1 := (bf.grown hg (by simp; try omega)).c6.2.1
   go_wp2
   go_roundw
   case rel=>exact ⟨j + 1,rfl,by omega,hset,hgs⟩
   case measure=>simp [intOf]; omega
  ·obtain rfl : j = 1024 := by omega
   go_wp2
   go_ret2
   refine ⟨w.heap.size + 1 + 1,w.heap.size,(w.heap.size + 1),_,_,_,rfl,bf.grown hg (by simp; try omega),hIw,bb.grown hg (by simp; try omega),by omega,by omega,by omega,by omega,by omega,by omega,⟨hg.os.trans hgv.os,hg.tape.trans hgv.tape,hg.output.trans hgv.output,Nat.le_trans hgv.size hg.size,fun k hk _=>(hg.block k (Nat.lt_of_lt_of_le hk hgv.size) (by simp; try omega)).trans (hgv.block k hk)⟩⟩
 ·unfold mild
  go_simp
  rw [makeWear]
  simp only [mildUpon,Result.andThen]
  refine ⟨Below.alloc (Below.refl w.heap.size _) (by simp) _,?_⟩
  apply wpX_one (i := 5) rfl rfl (by kernel_rfl)
  unfold mild
  go_simp
  rw [show IntKind.i64.wrap (IntKind.i64.wrap 16 * 64) = 1024 by decide,makeImg]
  simp only [mildUpon,Result.andThen]
  refine ⟨Below.alloc (Below.refl w.heap.size _) (by simp) _,?_⟩
  apply wpX_rest (k := 8) (by kernel_rfl)
  have ba0 := Blk.new w 3 (#[.int .i64 0,.int .i64 0])
  have bb0 := Blk.new' (w := w.alloc (.cells #[.int .i64 0,.int .i64 0] 3)) (t := 5) (cs := (bsA (flNewB 0))) (g := w.heap.size + 1) (by simp)
  have bf := (Blk.new' (w := (w.alloc (.cells #[.int .i64 0,.int .i64 0] 3)).alloc (.cells (bsA (flNewB 0)) 5)) (t := 155) (cs := (flC (w.heap.size + 1) w.heap.size 2)) (g := w.heap.size + 1 + 1) (by simp)).drew
  have ba := ((ba0.alloc (.cells (bsA (flNewB 0)) 5)).alloc (.cells (flC (w.heap.size + 1) w.heap.size 2) 155)).drew
  have bb := (bb0.alloc (.cells (flC (w.heap.size + 1) w.heap.size 2) 155)).drew
  clear ba0 bb0
  have hgv : Below w.heap.size w (((w.alloc (.cells #[.int .i64 0,.int .i64 0] 3)).alloc (.cells (bsA (flNewB 0)) 5)).alloc (.cells (flC (w.heap.size + 1) w.heap.size 2) 155)).drew := Below.drew (Below.alloc (Below.alloc (Below.alloc (Below.refl _ w) (by simp) _) (by simp) _) (by simp; omega) _)
  obtain ⟨y0,y1,y2,y3,y4,y5⟩ := Blk.c6 bf
  go_wp2
  generalize hv : World.drew _ = v at bb ba bf hgv y0 y1 y2 y3 y4 y5
  clear hv
  go_loopw [32] (fun i wr=>∃ j : Nat,i = .int .i64 j ∧ j ≤ 1024 ∧ Blk wr (w.heap.size + 1) 5 (bsA (flNewB j)) ∧ v.grownBy wr (some (w.heap.size + 1))) (fun i _=>1024 - (intOf i).toNat)
  case atStart=>exact ⟨0,rfl,by omega,bb,grown_self v (some _)⟩
  case round =>
  obtain ⟨j,rfl,hj,hIw,hg⟩ := hrel
  by_cases hlt : j < 1024
  ·have c1 := bs_cell hIw (i := j) (by rw [flNewB_len hj]; exact hlt)
   have f1 := hIw.frozen j
   have hset := bs_set hIw j 255
   rw [flNewB_set hlt] at hset
   have hgs := grown_setCell hg (p := ⟨(w.heap.size + 1),j,none⟩) (.inl rfl) (.int .u8 255)
   have z1 := (bf.grown hg (by simp; try omega)).c6.2.1
   go_wp2
   go_roundw
   case rel=>exact ⟨j + 1,rfl,by omega,hset,hgs⟩
   case measure=>simp [intOf]; omega
  ·obtain rfl : j = 1024 := by omega
   go_wp2
   go_ret2
   refine ⟨w.heap.size + 1 + 1,(w.heap.size + 1),w.heap.size,_,_,_,rfl,bf.grown hg (by simp; try omega),hIw,ba.grown hg (by simp; try omega),by omega,by omega,by omega,by omega,by omega,by omega,⟨hg.os.trans hgv.os,hg.tape.trans hgv.tape,hg.output.trans hgv.output,Nat.le_trans hgv.size hg.size,fun k hk _=>(hg.block k (Nat.lt_of_lt_of_le hk hgv.size) (by simp; try omega)).trans (hgv.block k hk)⟩⟩
end Go.Proofs.YtbegodiligmphaaGreatDoor
namespace Go.Proofs.YtbegodiligmphaaGreatDoor.Sy
open Go
section
open Go Go.RowKit
def BlankRel (L : Loc) (w : World) : Prop :=
 ∃ (F tF I tI W tW c : Nat),L.n = F ∧ L.val = .pointer (some ⟨F,0,none⟩) ∧
  Go.Proofs.YtbegodiligmphaaGreatDoor.Blk w F tF (flC I W c) ∧ Go.Proofs.YtbegodiligmphaaGreatDoor.Blk w I tI (bsA (flNewB 1024)) ∧ Go.Proofs.YtbegodiligmphaaGreatDoor.Blk w W tW #[.int .i64 0,.int .i64 0] ∧ I ≠ F ∧ I ≠ W ∧ F ≠ W ∧ ∀ x,L.own x ↔ x = F ∨ x = I ∨ x = W
theorem BlankRel.keep {L : Loc} {w w' : World} (h : BlankRel L w) (hk : ∀ x,L.own x → w'.heap[x]? = w.heap[x]?) : BlankRel L w' := by
 obtain ⟨F,tF,I,tI,W,tW,c,h3,h4,h5,h6,h7,h8,h9,h10,h11⟩ := h
 exact ⟨F,tF,I,tI,W,tW,c,h3,h4,(hk F ((h11 F).2 (.inl rfl))).trans h5,(hk I ((h11 I).2 (.inr (.inl rfl)))).trans h6,(hk W ((h11 W).2 (.inr (.inr rfl)))).trans h7,h8,h9,h10,h11⟩
theorem flNewB_last : flNewB 1024 = List.replicate 1024 255 := by
 unfold flNewB
 rw [show 1024 - 1024 = 0 from Nat.sub_self _,List.replicate_zero,List.append_nil]
theorem BlankRel.told {L : Loc} {w : World} (h : BlankRel L w) : FlRel [.int .i64 (codeI (0 :: 0 :: List.replicate 1024 255))] L w := by
 obtain ⟨F,tF,I,tI,W,tW,c,h3,h4,h5,h6,h7,h8,h9,h10,h11⟩ := h
 rw [flNewB_last] at h6
 exact ⟨List.replicate 1024 255,0,0,F,tF,I,tI,W,tW,c,rfl,List.length_replicate,fun x hx=>by rw [(List.mem_replicate.1 hx).2]; omega,h4,h5,h6,h7,h8,h9,h10,h11⟩
def blB : SB := ⟨3,[],[],some 5⟩
def blMem : List SB := blB :: tabs3
def newBl : MS := { args := [.a (.one (.int .i64 (.c 2))),.a (.one (.int .i64 (.c 8)))],mem := tabs3,nt := 3,ob := obN,k := 0,dom := [],out := .tup [.one (.ptr 3 0),.one .nilI],mem' := blMem,nt' := 4,F := fun _ _=>0,iv := fun _=>(1,0),gl := [0,1,2] }
def lookBl (o : SV) : MS := { args := [.a (.one (.ptr 3 0))],mem := blMem,nt := 4,ob := obN,k := 0,dom := [],out := o,mem' := blMem,nt' := 4,F := fun _ _=>0,iv := fun _=>(1,0),gl := [0,1,2] }
def readBl : MS := { args := [.a (.one (.ptr 3 0)),.a (.one (.int .i64 (.e 0)))],mem := blMem,nt := 4,ob := obN,k := 1,dom := [(0,0,15)],out := .tup [.one (.sla 4 0 64),.one .nilI],mem' := ⟨4,[],List.replicate 64 (.int .u8 (.c 255)),none⟩ :: blMem,nt' := 5,F := fun _ _=>0,iv := fun _=>(1,0),gl := [0,1,2] }
theorem wfBl : WF ⟨blMem,4⟩ := by
 refine ⟨List.pairwise_cons.2 ⟨fun c hc=>?_,by decide⟩,fun c hc=>?_⟩
 ·have h3 : ∀ c ∈ tabs3,c.id < 3 := by decide
  exact h3 c hc
 ·rcases List.mem_cons.1 hc with rfl | hc
  ·exact (by decide : 3 < 4)
  ·have h3 : ∀ c ∈ tabs3,c.id < 4 := by decide
   exact h3 c hc
theorem sats_rep {ρ : Map} {E : Nat → Int} {n : Int} : ∀ (k : Nat) (vs : List Value),vs.take k = List.replicate k (.int .u8 n) → sats ρ E (List.replicate k (.int .u8 (.c n))) vs
 | 0,_,_=>trivial
 | k + 1,[],h=>by simp [List.replicate_succ] at h
 | k + 1,v :: vs,h=>by
  rw [List.take_succ_cons,List.replicate_succ,List.cons.injEq] at h
  rw [List.replicate_succ]
  exact ⟨h.1,sats_rep k vs h.2⟩
section
variable {O : Objs} {C : Cx} (hP : C.P = Tryz.prog) (hgl : ∀ gl id,C.glob gl = some id → id ∈ [0,1,2]) (hO : ∀ vs L w,O.rel 5 vs L w ↔ BlankRel L w)
include hO in
theorem bl_get {ρ : Map} {E : Nat → Int} {w : World} {L : Loc} (hM : M O ρ E blMem w) (hL : ρ 3 = some L) : BlankRel L w := by
 obtain ⟨L',vs,h1,h2,h3⟩ := hM.blk blB List.mem_cons_self rfl
 simp only [blB] at h1
 obtain rfl : L = L' := by rw [hL] at h1; injection h1
 exact (hO vs L w).1 (by simpa [blB,Objs.re] using h3)
include hP hgl hO
theorem newBl_ok : ∀ I X E,CtrOk C O I X E 15 newBl.ctr := by
 have h3 : ∀ c ∈ tabs3,c.id < 3 := by decide
 refine MS.of _ (by rw [hP]; exact ⟨_,_,Tryz.func15,rfl⟩) ⟨by decide,h3⟩ (Nat.le_succ _) (by show 4 ≤ 1000000; decide) hgl (fun b hb=>?_) fun xs hl hd Ef h1 h2 ρ vs w hs hG hM hF=>?_
 ·rcases List.mem_cons.1 hb with rfl | hb
  ·exact .inr ⟨(by decide : 3 ≤ 3),(by decide : 3 < 4)⟩
  ·exact .inl ⟨b,hb,rfl⟩
 match vs,hs with
 | [v0,v1],⟨hv0,hv1,_⟩ =>
  obtain rfl : v0 = .int .i64 2 := hv0
  obtain rfl : v1 = .int .i64 8 := hv1
  rw [hP]
  refine Calls.mono (flNew (w := w)) fun e w' he=>?_
  obtain ⟨F,J,W,tF,tI,tW,rfl,k1,k2,k3,k4,k5,k6,k7,k8,k9,k10⟩ := he
  have hq : Quiet w w' := ⟨k10.os,k10.tape,k10.output,k10.size,fun x hx=>k10.block x hx (by simp)⟩
  have hblk : Blk O (more ρ 3 ⟨F,0,fun x=>x = F ∨ x = J ∨ x = W,.pointer (some ⟨F,0,none⟩)⟩) Ef blB w' := ⟨⟨F,0,fun x=>x = F ∨ x = J ∨ x = W,.pointer (some ⟨F,0,none⟩)⟩,[],more_self,trivial,by
   simp only [blB,Objs.re]
   rw [if_neg (by decide)]
   exact (hO _ _ _).2 ⟨F,tF,J,tI,W,tW,2,rfl,rfl,k1,k2,k3,k4,k5,k6,fun _=>Iff.rfl⟩⟩
  obtain ⟨m1,m2⟩ := new1 hM ⟨by decide,h3⟩ hF hq hblk (fun x hx=>by
   rcases hx with rfl | rfl | rfl
   ·exact ⟨k7,k1.lt⟩
   ·exact ⟨k8,k2.lt⟩
   ·exact ⟨k9,k3.lt⟩)
  exact ⟨_,_,rfl,⟨_,rfl,⟨_,more_self,rfl⟩,rfl,trivial⟩,m1,m2⟩
theorem blLook {f : FuncId} {o : SV} {r : Value} (hbody : ∃ fn b,Tryz.prog.funcs[f]? = some fn ∧ fn.body = some b) (ho : ∀ ρ E,o.sat ρ E r)
  (hw : ∀ (w : World) (F tF I W c : Nat),Go.Proofs.YtbegodiligmphaaGreatDoor.Blk w F tF (flC I W c) → Calls Tryz.prog f #[.pointer (some ⟨F,0,none⟩)] w fun e w'=>e = .returned r ∧ w = w') : ∀ I X E,CtrOk C O I X E f (lookBl o).ctr := by
 refine MS.of _ (by rw [hP]; exact hbody) wfBl (Nat.le_refl _) (by show 4 ≤ 1000000; decide) hgl (fun b hb=>.inl ⟨b,hb,rfl⟩) fun xs hl hd Ef h1 h2 ρ vs w hs hG hM hF=>?_
 match vs,hs with
 | [v0],⟨⟨L,hL,hv⟩,_⟩ =>
  obtain ⟨F,tF,I,tI,W,tW,c,e3,e4,e5,_⟩ := bl_get hO hM hL
  rw [hP,hv,e3]
  refine Calls.mono (hw w F tF I W c e5) fun e w' he=>?_
  obtain ⟨rfl,rfl⟩ := he
  exact ⟨ρ,r,rfl,ho _ _,hM,Ext.rfl'⟩
theorem downBl_ok : ∀ I X E,CtrOk C O I X E 184 (lookBl (.a (.one (.bool (.c 0))))).ctr := blLook hP hgl hO ⟨_,_,Tryz.func184,rfl⟩ (r := .bool false) (fun _ _=>rfl) fun _w _ _ _ _ _ h=>flDown h
theorem pagesBl_ok : ∀ I X E,CtrOk C O I X E 188 (lookBl (.a (.one (.int .i64 (.c 8))))).ctr := blLook hP hgl hO ⟨_,_,Tryz.func188,rfl⟩ (r := .int .i64 8) (fun _ _=>rfl) fun _w _ _ _ _ _ h=>flPages h
theorem blocksBl_ok : ∀ I X E,CtrOk C O I X E 186 (lookBl (.a (.one (.int .i64 (.c 2))))).ctr := blLook hP hgl hO ⟨_,_,Tryz.func186,rfl⟩ (r := .int .i64 2) (fun _ _=>rfl) fun _w _ _ _ _ _ h=>flBlocks h
theorem readBl_ok : ∀ I X E,CtrOk C O I X E 189 readBl.ctr := by
 refine MS.of _ (by rw [hP]; exact ⟨_,_,Tryz.func189,rfl⟩) wfBl (Nat.le_succ _) (by show 5 ≤ 1000000; decide) hgl (fun b hb=>?_) fun xs hl hd Ef h1 h2 ρ vs w hs hG hM hF=>?_
 ·rcases List.mem_cons.1 hb with rfl | hb
  ·exact .inr ⟨(by decide : 4 ≤ 4),(by decide : 4 < 5)⟩
  ·exact .inl ⟨b,hb,rfl⟩
 match vs,hs with
 | [v0,v1],⟨⟨L,hL,hv⟩,hv1,_⟩ =>
  have hd0 : (0 : Int) ≤ xs.getD 0 0 ∧ xs.getD 0 0 ≤ 15 := hd (0,0,15) (by simp [readBl])
  have q0 : Ef 0 = xs.getD 0 0 := h1 0 (by show 0 < 1; decide)
  obtain ⟨F,tF,I,tI,W,tW,c,e3,e4,e5,e6,e7,e8,e9,e10,e11⟩ := bl_get hO hM hL
  obtain ⟨k,hk⟩ : ∃ k : Nat,xs.getD 0 0 = k := ⟨(xs.getD 0 0).toNat,by omega⟩
  have hv1 : v1 = .int .i64 k := by
   have : v1 = .int .i64 (Ef 0) := hv1
   rw [this,q0,hk]
  rw [hP,hv,e3,hv1]
  refine Calls.mono (flRead e5 e6 (flNewB_len (Nat.le_refl _)) (k := k) (by omega)) fun e w' he=>?_
  obtain ⟨g,cap,cur,rfl,k1,k2,k3,k4,k5,k6⟩ := he
  have hq : Quiet w w' := ⟨k6.os,k6.tape,k6.output,k6.size,fun x hx=>k6.block x hx (by simp)⟩
  have hg : g < w'.heap.size := (Array.getElem?_eq_some_iff.1 k3).1
  have k7 : cur.toList.take 64 = List.replicate 64 (.int .u8 255) := by
   rw [k5,flNewB_last,List.drop_replicate,List.take_replicate,List.map_replicate,Nat.min_eq_left (by omega)]
  have hblk : Blk O (more ρ 4 ⟨g,cap,fun x=>x = g,tyV 5⟩) Ef ⟨4,[],List.replicate 64 (.int .u8 (.c 255)),none⟩ w' := ⟨⟨g,cap,fun x=>x = g,tyV 5⟩,cur.toList,more_self,sats_rep 64 cur.toList k7,fun _=>Iff.rfl,by simpa using k4,5,by rw [k3],rfl⟩
  obtain ⟨m1,m2⟩ := new1 hM wfBl hF hq hblk (fun x hx=>by rw [hx]; exact ⟨k1,hg⟩)
  exact ⟨_,_,rfl,⟨_,rfl,⟨⟨g,cap,fun x=>x = g,tyV 5⟩,cap,more_self,k2,rfl⟩,rfl,trivial⟩,m1,m2⟩
end
end
def lI (n : Int) : Leaf := .int .i64 (.c n)
def shE (a n : Nat) : List Leaf := (List.range' a n).map fun i=>.int .i64 (.e i)
def hiP (i : Nat) : Int := match i with | 0=>4096 | 1=>1048576 | 2=>1048576 | _=>6000
def parD (a : Nat) : List (Nat × Int × Int) := (List.range 4).map fun i=>(a + i,0,hiP i)
def byD (a n : Nat) : List (Nat × Int × Int) := (List.range' a n).map fun i=>(i,0,255)
def mkSh (kind : Nat) : Sh :=
 {mem := [⟨19,[],[.opq 15,lI 0,lI 2,.sla 18 0 4,.sla 17 0 4,.sla 16 0 4,iE 8,iE 9,iE 10,.bool (.c (if kind = 3 then 1 else 0))] ++
    (if kind = 0 then [.junk,.junk,.junk,.junk,.junk,.junk,.bool (.c 0)] else if kind = 3 then [.junk,.junk,.junk,.junk,.junk,.junk,.junk] else
     [.sla 12 0 1,.sla 10 0 4,iE 80,iE 81,lI 0,.bool (.c (if kind = 2 then 1 else 0)),.bool (.c 1)]),none⟩,
   ⟨18,[],[lI 0,lI 4096,lI 40,lI 0,lI 1048576,lI 2000,lI 0,lI 1048576,lI 100,lI 0,lI 6000,lI 6000],none⟩,
   ⟨17,[],shE 0 4,none⟩,⟨16,[],shE 4 4,none⟩,⟨15,[],[iE 11],some 4⟩] ++
   (if kind = 1 ∨ kind = 2 then [⟨12,[],[.sla 11 0 64],none⟩,⟨11,[],u8E 12 64,none⟩,⟨10,[],shE 76 4,none⟩] else []),
  k := if kind = 1 ∨ kind = 2 then 82 else 12,dom := parD 0 ++ parD 4 ++ [(9,0,1),(10,-1,7)] ++ (if kind = 1 ∨ kind = 2 then byD 12 64 ++ parD 76 ++ [(80,0,1),(81,0,7)] else []) }
def sh (c : Nat) : Sh := mkSh (min c 3)
def base (c : Nat) (ar : List Ref) (na : Nat) (dom : List (Nat × Int × Int)) (sp : List (Ref × Bool)) (kn : List (Nat × Int)) : MLit :=
 {args := .a (.one (.ptr 19 0)) :: ar.map (fun r=>.a (.one (.int .i64 r))),mem := (sh c).mem.map (litB kn) ++ tabs3,nt := 20,k := (sh c).k + na,dom := (sh c).dom ++ dom,out := .a (.one .junk),nw := [],dif := [],gone := [],nt' := 20,ivs := [],gl := [0,1,2],sup := sp }
def only (c d : Nat) : List Wy := [⟨base c [] 0 [] [] [],[],d,[],0⟩]
theorem sh_ok : ∀ c,(sh c).ok = true := fun c=>by
 have h : ∀ c,c < 4 → (mkSh c).ok = true := by decide +kernel
 exact h _ (by omega)
theorem sh_top : ∀ c,∀ b ∈ (sh c).mem,b.id < 20 := fun c=>by
 have h : ∀ c,c < 4 → ∀ b ∈ (mkSh c).mem,b.id < 20 := by decide +kernel
 exact h _ (by omega)
def gLg (xs : List Int) (l : Nat) : I.Lg := ⟨xs.getD (2 * l) 0,xs.getD (2 * l + 1) 0⟩
def gF (xs : List Int) (l : Nat) : Int := xs.getD (6 + 2 * l) 0
def gO (xs : List Int) (l : Nat) : Int := xs.getD (7 + 2 * l) 0
def gRq (xs : List Int) : I.Rq := ⟨xs.getD 12 0,xs.getD 13 0,xs.getD 14 0,gF xs,gO xs,gLg xs⟩
def gCode (xs : List Int) : Int := I.rcode (gLg xs 0) (gLg xs 1) (gLg xs 2) (gF xs 0) (gO xs 0) (gF xs 1) (gO xs 1) (gF xs 2) (gO xs 2) (xs.getD 12 0) (xs.getD 13 0) (xs.getD 14 0)
def gatesOk (xs : List Int) (i : Nat) : Int :=
 match i with
 | 15=>xs.getD 12 0
 | 16=>ofB ((gLg xs 0).s == 2)
 | 17=>ofB ((gLg xs 0).s == 1)
 | 18=>ofB ((gLg xs 1).s == 2)
 | 19=>ofB ((gLg xs 1).s == 1)
 | 20=>ofB ((gLg xs 2).s == 2)
 | 21=>ofB ((gLg xs 2).s == 1)
 | 22=>((gRq xs).at_ 0 (xs.getD 12 0).toNat).s
 | 23=>((gRq xs).at_ 0 (xs.getD 12 0).toNat).j
 | 24=>((gRq xs).at_ 1 (xs.getD 12 0).toNat).s
 | 25=>((gRq xs).at_ 1 (xs.getD 12 0).toNat).j
 | 26=>((gRq xs).at_ 2 (xs.getD 12 0).toNat).s
 | 27=>((gRq xs).at_ 2 (xs.getD 12 0).toNat).j
 | 28=>1
 | 30=>codeE ((gRq xs).es (xs.getD 12 0).toNat)
 | _=>0
def gatesNo (xs : List Int) (i : Nat) : Int :=
 match i with
 | 29=>gCode xs
 | 30=>codeE []
 | _=>0
def gatesF (i : Nat) (xs : List Int) : Int := if gCode xs = 0 then gatesOk xs i else gatesNo xs i
def gatesIv (i : Nat) : Int × Int :=
 match i with
 | 15=>(0,4096)
 | 16 | 17 | 18 | 19 | 20 | 21 | 28=>(0,1)
 | 22 | 24 | 26=>(0,2)
 | 23 | 25 | 27=>(0,4096)
 | 29=>(0,11)
 | _=>(1,0)
def ints (a n : Nat) : List Leaf := (List.range' a n).map fun i=>.int .i64 (.e i)
def gatesS : MS :=
 {args := [.a (.agg (ints 0 6)),.a (.agg (ints 6 6)),.a (.one (.int .i64 (.e 12))),.a (.one (.int .i64 (.e 13))),.a (.one (.int .i64 (.e 14)))],
  mem := tabs3,nt := 3,ob := obN,k := 15,dom := [],
  out := .tup [.agg [.int .i64 (.e 15),.bool (.e 16),.bool (.e 17),.bool (.e 18),.bool (.e 19),.bool (.e 20),.bool (.e 21),.opq 3],.agg (ints 22 6),.one (.mix (.e 28) .nilI (.ifc 116 (.int .i64 (.e 29))))],
  mem' := ⟨3,[],[.int .i64 (.e 30)],some 3⟩ :: tabs3,nt' := 4,F := gatesF,iv := gatesIv,gl := [0,1,2] }
theorem sat_i {ρ : Map} {E : Nat → Int} {i : Nat} {v : Value} (h : (Leaf.int .i64 (.e i)).sat ρ E v) : v = .int .i64 (E i) := h
theorem six {ρ : Map} {E : Nat → Int} {a : Nat} {v : Value} (h : (SA.agg (ints a 6)).sat ρ E v) : v = .agg #[.int .i64 (E a),.int .i64 (E (a + 1)),.int .i64 (E (a + 2)),.int .i64 (E (a + 3)),.int .i64 (E (a + 4)),.int .i64 (E (a + 5))] := by
 obtain ⟨cs,rfl,hl,hs⟩ := h
 match cs,hl,hs with
 | [c0,c1,c2,c3,c4,c5],_,hs =>
  obtain ⟨h0,h1,h2,h3,h4,h5,_⟩ := hs
  rw [sat_i h0,sat_i h1,sat_i h2,sat_i h3,sat_i h4,sat_i h5]
theorem gcode_lok {xs : List Int} (h : gCode xs = 0) : (∀ l,l < 3 → I.Lok (gLg xs l)) ∧ I.rngOk (gLg xs 0) (gLg xs 1) (gLg xs 2) (xs.getD 12 0) (xs.getD 13 0) = true ∧ 0 ≤ xs.getD 14 0 ∧ xs.getD 14 0 ≤ xs.getD 12 0 ∧
  (∀ l,l < 3 → 0 ≤ gF xs l ∧ gF xs l ≤ gO xs l ∧ gO xs l ≤ xs.getD 12 0) ∧ 0 ≤ xs.getD 12 0 ∧ xs.getD 12 0 ≤ 4096 := by
 unfold gCode I.rcode at h
 split at h
 ·rename_i h1
  split at h
  ·rename_i h2
   simp only [Bool.and_eq_true,decide_eq_true_eq] at h1 h2
   have hr := h1.1
   simp only [I.rngOk,Bool.and_eq_true,I.perOk,decide_eq_true_eq] at hr
   refine ⟨fun l hl=>?_,h1.1,h1.2.1,h1.2.2,fun l hl=>?_,by omega,by omega⟩
   ·match l,hl with
    | 0,_=>exact I.legOk_lok hr.1.1.1.1
    | 1,_=>exact I.legOk_lok hr.1.1.1.2
    | 2,_=>exact I.legOk_lok hr.1.1.2
   ·simp only [I.shpOk,Bool.and_eq_true,decide_eq_true_eq] at h2
    match l,hl with
    | 0,_=>exact ⟨h2.1.1.1.1,h2.1.1.1.2,h2.1.1.2⟩
    | 1,_=>exact ⟨h2.1.2.1.1,h2.1.2.1.2,h2.1.2.2⟩
    | 2,_=>exact ⟨h2.2.1.1,h2.2.1.2,h2.2.2⟩
  ·cases h
 ·cases h
theorem gcode_cases (xs : List Int) : gCode xs = 0 ∨ gCode xs = 11 ∨ gCode xs = 3 := by
 unfold gCode I.rcode
 split
 ·split
  ·exact .inl rfl
  ·exact .inr (.inl rfl)
 ·exact .inr (.inr rfl)
theorem lok_at {xs : List Int} (h : gCode xs = 0) (l : Nat) (hl : l < 3) (t : Nat) : I.Lok ((gRq xs).at_ l t) := by
 have hx := (gcode_lok h).1 l hl
 induction t with
 | zero=>exact hx
 | succ t ih=>exact ih.step (I.wantF_cases _ _ _ _)
theorem ofB_iv (b : Bool) : clampI 0 1 (ofB b) = ofB b := by cases b <;> rfl
theorem clamp_in {lo hi n : Int} (h1 : lo ≤ n) (h2 : n ≤ hi) : clampI lo hi n = n := by
 unfold clampI
 split
 ·rfl
 ·rw [if_pos ⟨h1,h2⟩]
theorem gates_iv (xs : List Int) (i : Nat) : clampI (gatesIv i).1 (gatesIv i).2 (gatesF i xs) = gatesF i xs := by
 have leg : ∀ l,l < 3 → gCode xs = 0 → (0 ≤ ((gRq xs).at_ l (xs.getD 12 0).toNat).s ∧ ((gRq xs).at_ l (xs.getD 12 0).toNat).s ≤ 2) ∧ 0 ≤ ((gRq xs).at_ l (xs.getD 12 0).toNat).j ∧ ((gRq xs).at_ l (xs.getD 12 0).toNat).j ≤ 4096 := fun l hl h=>by
  have := lok_at h l hl (xs.getD 12 0).toNat
  exact ⟨by rcases this.s with e | e | e <;> rw [e] <;> decide,this.j0,this.j1⟩
 unfold gatesF
 by_cases h : gCode xs = 0
 ·rw [if_pos h]
  have k := gcode_lok h
  unfold gatesIv
  split
  ·exact clamp_in k.2.2.2.2.2.1 k.2.2.2.2.2.2
  ·exact ofB_iv _
  ·exact ofB_iv _
  ·exact ofB_iv _
  ·exact ofB_iv _
  ·exact ofB_iv _
  ·exact ofB_iv _
  ·rfl
  ·exact clamp_in (leg 0 (by decide) h).1.1 (leg 0 (by decide) h).1.2
  ·exact clamp_in (leg 1 (by decide) h).1.1 (leg 1 (by decide) h).1.2
  ·exact clamp_in (leg 2 (by decide) h).1.1 (leg 2 (by decide) h).1.2
  ·exact clamp_in (leg 0 (by decide) h).2.1 (leg 0 (by decide) h).2.2
  ·exact clamp_in (leg 1 (by decide) h).2.1 (leg 1 (by decide) h).2.2
  ·exact clamp_in (leg 2 (by decide) h).2.1 (leg 2 (by decide) h).2.2
  ·rfl
  ·simp [clampI]
 ·rw [if_neg h]
  unfold gatesIv
  split
  all_goals try rfl
  ·show clampI 0 11 (gCode xs) = gCode xs
   rcases gcode_cases xs with e | e | e <;> rw [e] <;> rfl
theorem gatesS_ok {C : Cx} {O : Objs} (hP : C.P = Tryz.prog) (hgl : ∀ gl id,C.glob gl = some id → id ∈ [0,1,2]) (hO : ∀ vs L w,relE vs L w → O.rel 3 vs L w) : ∀ I X E,CtrOk C O I X E 169 gatesS.ctr := by
 have hWt : WF ⟨tabs3,3⟩ := ⟨by decide,by decide⟩
 refine MS.of gatesS ⟨_,_,by rw [hP]; exact Tryz.func169,rfl⟩ hWt (by decide) (by decide) hgl (fun b hb=>?_) fun xs hl hd Ef h1 h2 ρ vs w hs hG hM hF=>?_
 ·rcases List.mem_cons.1 hb with rfl | hb
  ·exact .inr ⟨by decide,by decide⟩
  ·exact .inl ⟨b,hb,rfl⟩
 have hE : ∀ i,15 ≤ i → Ef i = gatesF i xs := fun i hi=>(h2 i hi).trans (gates_iv xs i)
 have hL : ∀ i,i < 15 → Ef i = xs.getD i 0 := h1
 match vs,hs with
 | [v0,v1,v2,v3,v4],⟨a0,a1,a2,a3,a4,_⟩ =>
  rw [hP]
  have e0 : v0 = .agg (I.cellsL (gLg xs)) := by rw [six a0,hL 0 (by decide),hL 1 (by decide),hL 2 (by decide),hL 3 (by decide),hL 4 (by decide),hL 5 (by decide)]; rfl
  have e1 : v1 = .agg (I.cellsP (gF xs) (gO xs)) := by rw [six a1,hL 6 (by decide),hL 7 (by decide),hL 8 (by decide),hL 9 (by decide),hL 10 (by decide),hL 11 (by decide)]; rfl
  have e2 : v2 = .int .i64 (xs.getD 12 0) := (sat_i (ρ := ρ) a2).trans (by rw [hL 12 (by decide)])
  have e3 : v3 = .int .i64 (xs.getD 13 0) := (sat_i (ρ := ρ) a3).trans (by rw [hL 13 (by decide)])
  have e4 : v4 = .int .i64 (xs.getD 14 0) := (sat_i (ρ := ρ) a4).trans (by rw [hL 14 (by decide)])
  rw [e0,e1,e2,e3,e4]
  have hn : ρ 3 = none := hF 3 (by decide) (by decide)
  have fin : ∀ {w' : World} {A : Option Addr} {n c : Nat} {es : List I.Ed},Quiet w w' → n = es.length → Sl w' w'.heap.size 3 A (es.map I.Ed.row) → (∀ ad,A = some ad → 0 < n → w.heap.size ≤ ad.block) → gatesF 30 xs = codeE es →
    ∃ L : Loc,L.val = .slice A n c ∧ M O (more ρ 3 L) Ef (⟨3,[],[.int .i64 (.e 30)],some 3⟩ :: tabs3) w' ∧ Ext ρ (more ρ 3 L) ⟨tabs3,3⟩ ⟨⟨3,[],[.int .i64 (.e 30)],some 3⟩ :: tabs3,4⟩ w w' := fun {w' A n c es} hq hn hsl hA he=>by
   refine ⟨⟨0,0,fun x=>w.heap.size ≤ x ∧ x < w'.heap.size,.slice A n c⟩,rfl,new1 hM hWt hF hq ⟨_,[.int .i64 (Ef 30)],more_self,⟨rfl,trivial⟩,?_⟩ fun x hx=>hx⟩
   refine reO (hO _ _ _ ⟨es,A,n,c,by rw [hE 30 (by decide),he],rfl,hn,hsl,fun ad ha h0=>⟨hA ad ha h0,?_⟩⟩)
   obtain ⟨ad',ha',hb,_⟩ := hsl.at_ (by rw [List.length_map,← hn]; exact h0)
   rw [ha] at ha'
   injection ha' with ha'
   rw [ha']; exact hb
  by_cases hc : gCode xs = 0
  ·have k := gcode_lok hc
   have g : ∀ i,15 ≤ i → Ef i = gatesOk xs i := fun i hi=>by rw [hE i hi]; unfold gatesF; rw [if_pos hc]
   refine Calls.mono (I.run_walk (gLg xs) (gF xs) (gO xs) (xs.getD 12 0) (xs.getD 13 0) (xs.getD 14 0) w k.2.1 k.2.2.1 k.2.2.2.1 (k.2.2.2.2.1 0 (by decide)).1 (k.2.2.2.2.1 0 (by decide)).2.1 (k.2.2.2.2.1 0 (by decide)).2.2 (k.2.2.2.2.1 1 (by decide)).1 (k.2.2.2.2.1 1 (by decide)).2.1 (k.2.2.2.2.1 1 (by decide)).2.2 (k.2.2.2.2.1 2 (by decide)).1 (k.2.2.2.2.1 2 (by decide)).2.1 (k.2.2.2.2.1 2 (by decide)).2.2 (gRq xs) rfl) fun e w' he=>?_
   obtain ⟨A,n,c,rfl,hn',hsl,hA,hb⟩ := he
   obtain ⟨L,hLv,m1,m2⟩ := fin (c := c) hb hn' hsl (fun ad ha _=>hA ad ha) (by unfold gatesF; rw [if_pos hc]; rfl)
   refine ⟨more ρ 3 L,_,rfl,⟨[_,_,_],rfl,⟨[_,_,_,_,_,_,_,_],rfl,rfl,?_,?_,?_,?_,?_,?_,?_,⟨L,more_self,hLv.symm,by simp,by simp⟩,trivial⟩,⟨[_,_,_,_,_,_],rfl,rfl,?_,?_,?_,?_,?_,?_,trivial⟩,?_,trivial⟩,m1,m2⟩
   ·show _ = Value.int .i64 (Ef 15); rw [g 15 (by decide)]; rfl
   ·show _ = Value.bool (truth (Ef 16)); rw [g 16 (by decide)]; exact congrArg _ (truth_ofB _).symm
   ·show _ = Value.bool (truth (Ef 17)); rw [g 17 (by decide)]; exact congrArg _ (truth_ofB _).symm
   ·show _ = Value.bool (truth (Ef 18)); rw [g 18 (by decide)]; exact congrArg _ (truth_ofB _).symm
   ·show _ = Value.bool (truth (Ef 19)); rw [g 19 (by decide)]; exact congrArg _ (truth_ofB _).symm
   ·show _ = Value.bool (truth (Ef 20)); rw [g 20 (by decide)]; exact congrArg _ (truth_ofB _).symm
   ·show _ = Value.bool (truth (Ef 21)); rw [g 21 (by decide)]; exact congrArg _ (truth_ofB _).symm
   ·show _ = Value.int .i64 (Ef 22); rw [g 22 (by decide)]; rfl
   ·show _ = Value.int .i64 (Ef 23); rw [g 23 (by decide)]; rfl
   ·show _ = Value.int .i64 (Ef 24); rw [g 24 (by decide)]; rfl
   ·show _ = Value.int .i64 (Ef 25); rw [g 25 (by decide)]; rfl
   ·show _ = Value.int .i64 (Ef 26); rw [g 26 (by decide)]; rfl
   ·show _ = Value.int .i64 (Ef 27); rw [g 27 (by decide)]; rfl
   ·refine ⟨fun _=>rfl,fun h=>?_⟩
    have h' : truth (Ef 28) = false := h
    rw [g 28 (by decide)] at h'
    cases h'
  ·have g : ∀ i,15 ≤ i → Ef i = gatesNo xs i := fun i hi=>by rw [hE i hi]; unfold gatesF; rw [if_neg hc]
   refine Calls.mono (I.run_bad (gLg xs) (gF xs) (gO xs) (xs.getD 12 0) (xs.getD 13 0) (xs.getD 14 0) w hc) fun e w' he=>?_
   obtain ⟨rfl,hb⟩ := he
   obtain ⟨L,hLv,m1,m2⟩ := fin (A := none) (n := 0) (c := 0) (es := []) hb rfl ⟨by simp,fun h=>by simp at h⟩ (fun _ h=>by cases h) (by unfold gatesF; rw [if_neg hc]; rfl)
   refine ⟨more ρ 3 L,_,rfl,⟨[_,_,_],rfl,⟨[_,_,_,_,_,_,_,_],rfl,rfl,?_,?_,?_,?_,?_,?_,?_,⟨L,more_self,hLv.symm,by simp,by simp⟩,trivial⟩,⟨[_,_,_,_,_,_],rfl,rfl,?_,?_,?_,?_,?_,?_,trivial⟩,?_,trivial⟩,m1,m2⟩
   ·show _ = Value.int .i64 (Ef 15); rw [g 15 (by decide)]; rfl
   ·show _ = Value.bool (truth (Ef 16)); rw [g 16 (by decide)]; rfl
   ·show _ = Value.bool (truth (Ef 17)); rw [g 17 (by decide)]; rfl
   ·show _ = Value.bool (truth (Ef 18)); rw [g 18 (by decide)]; rfl
   ·show _ = Value.bool (truth (Ef 19)); rw [g 19 (by decide)]; rfl
   ·show _ = Value.bool (truth (Ef 20)); rw [g 20 (by decide)]; rfl
   ·show _ = Value.bool (truth (Ef 21)); rw [g 21 (by decide)]; rfl
   ·show _ = Value.int .i64 (Ef 22); rw [g 22 (by decide)]; rfl
   ·show _ = Value.int .i64 (Ef 23); rw [g 23 (by decide)]; rfl
   ·show _ = Value.int .i64 (Ef 24); rw [g 24 (by decide)]; rfl
   ·show _ = Value.int .i64 (Ef 25); rw [g 25 (by decide)]; rfl
   ·show _ = Value.int .i64 (Ef 26); rw [g 26 (by decide)]; rfl
   ·show _ = Value.int .i64 (Ef 27); rw [g 27 (by decide)]; rfl
   ·refine ⟨fun h=>?_,fun _=>?_⟩
    ·have h' : truth (Ef 28) = true := h
     rw [g 28 (by decide)] at h'
     cases h'
    ·refine ⟨.int .i64 (Ef 29),?_,rfl⟩
     rw [g 29 (by decide)]
     exact I.errV_ne hc
section
open Go Go.RowKit
theorem gates_calls {C : Cx} {O : Objs} (hP : C.P = Tryz.prog) (hO : ∀ vs L w,relE vs L w → O.rel 3 vs L w) (xs : List Int) (Ef : Nat → Int) (h1 : ∀ i,i < 15 → Ef i = xs.getD i 0) (h2 : ∀ i,15 ≤ i → Ef i = clampI (gatesIv i).1 (gatesIv i).2 (gatesF i xs)) (ρ : Map) (vs : List Value) (w : World)
  (hs : satVs ρ Ef gatesS.args vs) (hM : M O ρ Ef tabs3 w) (hF : Fresh ρ 3 4) : Calls C.P 169 vs.toArray w fun e w'=>∃ ρ' u,e = .returned u ∧ gatesS.out.sat ρ' Ef u ∧ M O ρ' Ef gatesS.mem' w' ∧ Ext ρ ρ' ⟨tabs3,3⟩ ⟨gatesS.mem',4⟩ w w' := by
 have hWt : WF ⟨tabs3,3⟩ := ⟨by decide,by decide⟩
 have hE : ∀ i,15 ≤ i → Ef i = gatesF i xs := fun i hi=>(h2 i hi).trans (gates_iv xs i)
 have hL : ∀ i,i < 15 → Ef i = xs.getD i 0 := h1
 match vs,hs with
 | [v0,v1,v2,v3,v4],⟨a0,a1,a2,a3,a4,_⟩ =>
  rw [hP]
  have e0 : v0 = .agg (I.cellsL (gLg xs)) := by rw [six a0,hL 0 (by decide),hL 1 (by decide),hL 2 (by decide),hL 3 (by decide),hL 4 (by decide),hL 5 (by decide)]; rfl
  have e1 : v1 = .agg (I.cellsP (gF xs) (gO xs)) := by rw [six a1,hL 6 (by decide),hL 7 (by decide),hL 8 (by decide),hL 9 (by decide),hL 10 (by decide),hL 11 (by decide)]; rfl
  have e2 : v2 = .int .i64 (xs.getD 12 0) := (sat_i (ρ := ρ) a2).trans (by rw [hL 12 (by decide)])
  have e3 : v3 = .int .i64 (xs.getD 13 0) := (sat_i (ρ := ρ) a3).trans (by rw [hL 13 (by decide)])
  have e4 : v4 = .int .i64 (xs.getD 14 0) := (sat_i (ρ := ρ) a4).trans (by rw [hL 14 (by decide)])
  rw [e0,e1,e2,e3,e4]
  have hn : ρ 3 = none := hF 3 (by decide) (by decide)
  have fin : ∀ {w' : World} {A : Option Addr} {n c : Nat} {es : List I.Ed},Quiet w w' → n = es.length → Sl w' w'.heap.size 3 A (es.map I.Ed.row) → (∀ ad,A = some ad → 0 < n → w.heap.size ≤ ad.block) → gatesF 30 xs = codeE es →
    ∃ L : Loc,L.val = .slice A n c ∧ M O (more ρ 3 L) Ef (⟨3,[],[.int .i64 (.e 30)],some 3⟩ :: tabs3) w' ∧ Ext ρ (more ρ 3 L) ⟨tabs3,3⟩ ⟨⟨3,[],[.int .i64 (.e 30)],some 3⟩ :: tabs3,4⟩ w w' := fun {w' A n c es} hq hn hsl hA he=>by
   refine ⟨⟨0,0,fun x=>w.heap.size ≤ x ∧ x < w'.heap.size,.slice A n c⟩,rfl,new1 hM hWt hF hq ⟨_,[.int .i64 (Ef 30)],more_self,⟨rfl,trivial⟩,?_⟩ fun x hx=>hx⟩
   refine reO (hO _ _ _ ⟨es,A,n,c,by rw [hE 30 (by decide),he],rfl,hn,hsl,fun ad ha h0=>⟨hA ad ha h0,?_⟩⟩)
   obtain ⟨ad',ha',hb,_⟩ := hsl.at_ (by rw [List.length_map,← hn]; exact h0)
   rw [ha] at ha'
   injection ha' with ha'
   rw [ha']; exact hb
  by_cases hc : gCode xs = 0
  ·have k := gcode_lok hc
   have g : ∀ i,15 ≤ i → Ef i = gatesOk xs i := fun i hi=>by rw [hE i hi]; unfold gatesF; rw [if_pos hc]
   refine Calls.mono (I.run_walk (gLg xs) (gF xs) (gO xs) (xs.getD 12 0) (xs.getD 13 0) (xs.getD 14 0) w k.2.1 k.2.2.1 k.2.2.2.1 (k.2.2.2.2.1 0 (by decide)).1 (k.2.2.2.2.1 0 (by decide)).2.1 (k.2.2.2.2.1 0 (by decide)).2.2 (k.2.2.2.2.1 1 (by decide)).1 (k.2.2.2.2.1 1 (by decide)).2.1 (k.2.2.2.2.1 1 (by decide)).2.2 (k.2.2.2.2.1 2 (by decide)).1 (k.2.2.2.2.1 2 (by decide)).2.1 (k.2.2.2.2.1 2 (by decide)).2.2 (gRq xs) rfl) fun e w' he=>?_
   obtain ⟨A,n,c,rfl,hn',hsl,hA,hb⟩ := he
   obtain ⟨L,hLv,m1,m2⟩ := fin (c := c) hb hn' hsl (fun ad ha _=>hA ad ha) (by unfold gatesF; rw [if_pos hc]; rfl)
   refine ⟨more ρ 3 L,_,rfl,⟨[_,_,_],rfl,⟨[_,_,_,_,_,_,_,_],rfl,rfl,?_,?_,?_,?_,?_,?_,?_,⟨L,more_self,hLv.symm,by simp,by simp⟩,trivial⟩,⟨[_,_,_,_,_,_],rfl,rfl,?_,?_,?_,?_,?_,?_,trivial⟩,?_,trivial⟩,m1,m2⟩
   ·show _ = Value.int .i64 (Ef 15); rw [g 15 (by decide)]; rfl
   ·show _ = Value.bool (truth (Ef 16)); rw [g 16 (by decide)]; exact congrArg _ (truth_ofB _).symm
   ·show _ = Value.bool (truth (Ef 17)); rw [g 17 (by decide)]; exact congrArg _ (truth_ofB _).symm
   ·show _ = Value.bool (truth (Ef 18)); rw [g 18 (by decide)]; exact congrArg _ (truth_ofB _).symm
   ·show _ = Value.bool (truth (Ef 19)); rw [g 19 (by decide)]; exact congrArg _ (truth_ofB _).symm
   ·show _ = Value.bool (truth (Ef 20)); rw [g 20 (by decide)]; exact congrArg _ (truth_ofB _).symm
   ·show _ = Value.bool (truth (Ef 21)); rw [g 21 (by decide)]; exact congrArg _ (truth_ofB _).symm
   ·show _ = Value.int .i64 (Ef 22); rw [g 22 (by decide)]; rfl
   ·show _ = Value.int .i64 (Ef 23); rw [g 23 (by decide)]; rfl
   ·show _ = Value.int .i64 (Ef 24); rw [g 24 (by decide)]; rfl
   ·show _ = Value.int .i64 (Ef 25); rw [g 25 (by decide)]; rfl
   ·show _ = Value.int .i64 (Ef 26); rw [g 26 (by decide)]; rfl
   ·show _ = Value.int .i64 (Ef 27); rw [g 27 (by decide)]; rfl
   ·refine ⟨fun _=>rfl,fun h=>?_⟩
    have h' : truth (Ef 28) = false := h
    rw [g 28 (by decide)] at h'
    cases h'
  ·have g : ∀ i,15 ≤ i → Ef i = gatesNo xs i := fun i hi=>by rw [hE i hi]; unfold gatesF; rw [if_neg hc]
   refine Calls.mono (I.run_bad (gLg xs) (gF xs) (gO xs) (xs.getD 12 0) (xs.getD 13 0) (xs.getD 14 0) w hc) fun e w' he=>?_
   obtain ⟨rfl,hb⟩ := he
   obtain ⟨L,hLv,m1,m2⟩ := fin (A := none) (n := 0) (c := 0) (es := []) hb rfl ⟨by simp,fun h=>by simp at h⟩ (fun _ h=>by cases h) (by unfold gatesF; rw [if_neg hc]; rfl)
   refine ⟨more ρ 3 L,_,rfl,⟨[_,_,_],rfl,⟨[_,_,_,_,_,_,_,_],rfl,rfl,?_,?_,?_,?_,?_,?_,?_,⟨L,more_self,hLv.symm,by simp,by simp⟩,trivial⟩,⟨[_,_,_,_,_,_],rfl,rfl,?_,?_,?_,?_,?_,?_,trivial⟩,?_,trivial⟩,m1,m2⟩
   ·show _ = Value.int .i64 (Ef 15); rw [g 15 (by decide)]; rfl
   ·show _ = Value.bool (truth (Ef 16)); rw [g 16 (by decide)]; rfl
   ·show _ = Value.bool (truth (Ef 17)); rw [g 17 (by decide)]; rfl
   ·show _ = Value.bool (truth (Ef 18)); rw [g 18 (by decide)]; rfl
   ·show _ = Value.bool (truth (Ef 19)); rw [g 19 (by decide)]; rfl
   ·show _ = Value.bool (truth (Ef 20)); rw [g 20 (by decide)]; rfl
   ·show _ = Value.bool (truth (Ef 21)); rw [g 21 (by decide)]; rfl
   ·show _ = Value.int .i64 (Ef 22); rw [g 22 (by decide)]; rfl
   ·show _ = Value.int .i64 (Ef 23); rw [g 23 (by decide)]; rfl
   ·show _ = Value.int .i64 (Ef 24); rw [g 24 (by decide)]; rfl
   ·show _ = Value.int .i64 (Ef 25); rw [g 25 (by decide)]; rfl
   ·show _ = Value.int .i64 (Ef 26); rw [g 26 (by decide)]; rfl
   ·show _ = Value.int .i64 (Ef 27); rw [g 27 (by decide)]; rfl
   ·refine ⟨fun h=>?_,fun _=>?_⟩
    ·have h' : truth (Ef 28) = true := h
     rw [g 28 (by decide)] at h'
     cases h'
    ·refine ⟨.int .i64 (Ef 29),?_,rfl⟩
     rw [g 29 (by decide)]
     exact I.errV_ne hc
def gk (l : List Int) (a n : Nat) : List Leaf := (List.range' a n).map fun i=>.int .i64 (.c (l.getD i 0))
noncomputable def gatesK (ys zs : List Int) : MS :=
 {args := [.a (.agg (gk ys 0 6)),.a (.agg (gk ys 6 6)),.a (.one (.int .i64 (.c (ys.getD 12 0)))),.a (.one (.int .i64 (.c (ys.getD 13 0)))),.a (.one (.int .i64 (.c (ys.getD 14 0))))],
  mem := tabs3,nt := 3,ob := obN,k := 0,dom := [],
  out := .tup [.agg [.int .i64 (.c (zs.getD 0 0)),.bool (.c (zs.getD 1 0)),.bool (.c (zs.getD 2 0)),.bool (.c (zs.getD 3 0)),.bool (.c (zs.getD 4 0)),.bool (.c (zs.getD 5 0)),.bool (.c (zs.getD 6 0)),.opq 3],.agg (gk zs 7 6),.one .nilI],
  mem' := ⟨3,[],[.int .i64 (.e 0)],some 3⟩ :: tabs3,nt' := 4,F := fun _ _=>gatesF 30 ys,iv := fun _=>(1,0),gl := [0,1,2] }
theorem sats_gk {ρ : Map} {E E2 : Nat → Int} {l : List Int} : ∀ {n a : Nat} {vs : List Value},(∀ i,i < a + n → E2 i = l.getD i 0) → sats ρ E (gk l a n) vs → sats ρ E2 (ints a n) vs
 | 0,_,_,_,_=>trivial
 | n + 1,a,[],_,h=>h.elim
 | n + 1,a,v :: vs,hE,h=>by
  obtain ⟨h1,h2⟩ := h
  refine ⟨?_,sats_gk (fun i hi=>hE i (by omega)) h2⟩
  show v = .int .i64 (E2 a)
  rw [hE a (by omega)]
  exact h1
theorem agg_gk {ρ : Map} {E E2 : Nat → Int} {l : List Int} {n a : Nat} {v : Value} (hE : ∀ i,i < a + n → E2 i = l.getD i 0) (h : (SA.agg (gk l a n)).sat ρ E v) : (SA.agg (ints a n)).sat ρ E2 v := by
 obtain ⟨us,h1,h2,h3⟩ := h
 exact ⟨us,h1,by rw [h2]; simp [gk,ints],sats_gk hE h3⟩
theorem sats_kg {ρ : Map} {E E2 : Nat → Int} {l : List Int} {c : Nat} : ∀ {n a : Nat} {vs : List Value},(∀ i,i < a + n → a ≤ i → E2 (c + i) = l.getD i 0) → sats ρ E2 (ints (c + a) n) vs → sats ρ E (gk l a n) vs
 | 0,_,_,_,_=>trivial
 | n + 1,a,[],_,h=>h.elim
 | n + 1,a,v :: vs,hE,h=>by
  obtain ⟨h1,h2⟩ := h
  refine ⟨?_,sats_kg (c := c) (a := a + 1) (fun i hi hj=>hE i (by omega) (by omega)) h2⟩
  show v = .int .i64 (l.getD a 0)
  rw [← hE a (by omega) (Nat.le_refl _)]
  exact h1
theorem gatesK_ok {C : Cx} {O : Objs} (hP : C.P = Tryz.prog) (hgl : ∀ gl id,C.glob gl = some id → id ∈ [0,1,2]) (hO : ∀ vs L w,relE vs L w → O.rel 3 vs L w) {ys zs : List Int} (hz : ∀ i,i < 13 → gatesF (15 + i) ys = zs.getD i 0) (hno : truth (gatesF 28 ys) = true) :
  ∀ I X E,CtrOk C O I X E 169 (gatesK ys zs).ctr := by
 have hWt : WF ⟨tabs3,3⟩ := ⟨by decide,by decide⟩
 refine MS.of (gatesK ys zs) ⟨_,_,by rw [hP]; exact Tryz.func169,rfl⟩ hWt (Nat.le_succ 3) (by show 4 ≤ 1000000; decide) hgl (fun b hb=>?_) fun xs hl hd Ef h1 h2 ρ vs w hs hG hM hF=>?_
 ·rcases List.mem_cons.1 hb with rfl | hb
  ·exact .inr ⟨(by decide : 3 ≤ 3),(by decide : 3 < 4)⟩
  ·exact .inl ⟨b,hb,rfl⟩
 let E2 : Nat → Int := fun i=>if i < 15 then ys.getD i 0 else clampI (gatesIv i).1 (gatesIv i).2 (gatesF i ys)
 have g1 : ∀ i,i < 15 → E2 i = ys.getD i 0 := fun i hi=>if_pos hi
 have g2 : ∀ i,15 ≤ i → E2 i = clampI (gatesIv i).1 (gatesIv i).2 (gatesF i ys) := fun i hi=>if_neg (by omega)
 have g3 : ∀ i,15 ≤ i → E2 i = gatesF i ys := fun i hi=>(g2 i hi).trans (gates_iv ys i)
 have htab : closedM 0 tabs3 = true := by decide +kernel
 have htabs : ∀ b ∈ tabs3,b.cs = [] := by decide
 have e0 : Ef 0 = gatesF 30 ys := h2 0 (Nat.zero_le _)
 have hs2 : satVs ρ E2 gatesS.args vs := by
  match vs,hs with
  | [v0,v1,v2,v3,v4],⟨a0,a1,a2,a3,a4,_⟩ =>
   refine ⟨agg_gk (fun i hi=>g1 i (by omega)) a0,agg_gk (fun i hi=>g1 i (by omega)) a1,?_,?_,?_,trivial⟩
   ·rw [show v2 = .int .i64 (ys.getD 12 0) from a2,← g1 12 (by decide)]; rfl
   ·rw [show v3 = .int .i64 (ys.getD 13 0) from a3,← g1 13 (by decide)]; rfl
   ·rw [show v4 = .int .i64 (ys.getD 14 0) from a4,← g1 14 (by decide)]; rfl
 have hM2 : M O ρ E2 tabs3 w := M.closed (k := 0) htab hM fun j hj=>by omega
 refine Calls.mono (gates_calls hP hO ys E2 g1 g2 ρ vs w hs2 hM2 hF) fun e w' he=>?_
 obtain ⟨ρ',u,e1,k1,k2,k3⟩ := he
 refine ⟨ρ',u,e1,?_,?_,⟨k3.le,k3.size,k3.keep,k3.chg,k3.new,k3.io⟩⟩
 ·obtain ⟨us,rfl,kk⟩ := (show (gatesS.out).sat ρ' E2 u from k1)
  match us,kk with
  | [u0,u1,u2],⟨b0,b1,b2,_⟩ =>
   refine ⟨_,rfl,?_,?_,?_,trivial⟩
   ·obtain ⟨cs,c1,c2,c3⟩ := b0
    refine ⟨cs,c1,c2,?_⟩
    match cs,c3 with
    | [x0,x1,x2,x3,x4,x5,x6,x7],⟨d0,d1,d2,d3,d4,d5,d6,d7,_⟩ =>
     have z : ∀ i,i < 13 → E2 (15 + i) = zs.getD i 0 := fun i hi=>(g3 _ (by omega)).trans (hz i hi)
     refine ⟨?_,?_,?_,?_,?_,?_,?_,d7,trivial⟩
     ·rw [show x0 = .int .i64 (E2 15) from d0,z 0 (by decide)]; rfl
     ·rw [show x1 = .bool (truth (E2 16)) from d1,z 1 (by decide)]; rfl
     ·rw [show x2 = .bool (truth (E2 17)) from d2,z 2 (by decide)]; rfl
     ·rw [show x3 = .bool (truth (E2 18)) from d3,z 3 (by decide)]; rfl
     ·rw [show x4 = .bool (truth (E2 19)) from d4,z 4 (by decide)]; rfl
     ·rw [show x5 = .bool (truth (E2 20)) from d5,z 5 (by decide)]; rfl
     ·rw [show x6 = .bool (truth (E2 21)) from d6,z 6 (by decide)]; rfl
   ·obtain ⟨cs,c1,c2,c3⟩ := b1
    exact ⟨cs,c1,by rw [c2]; simp [gk,ints],sats_kg (c := 15) (a := 7) (fun i hi hj=>(g3 _ (by omega)).trans (hz i (by omega))) c3⟩
   ·exact b2.1 (by show truth (E2 28) = true; rw [g3 28 (by decide)]; exact hno)
 ·have hT : M O ρ' Ef tabs3 w' := M.closed (k := 0) (E := E2) htab ⟨fun b hb hc=>k2.blk b (List.mem_cons_of_mem _ hb) hc,fun b hb b' hb'=>k2.disj b (List.mem_cons_of_mem _ hb) b' (List.mem_cons_of_mem _ hb'),fun b hb=>k2.low b (List.mem_cons_of_mem _ hb)⟩ fun j hj=>by omega
  obtain ⟨L,vs3,p1,p2,p3⟩ := k2.blk _ List.mem_cons_self rfl
  refine ⟨fun b hb hc=>?_,fun b hb b' hb' hc hc' hne B B' hB hB'=>?_,fun b hb hc B hB=>?_⟩
  ·rcases List.mem_cons.1 hb with rfl | hb
   ·refine ⟨L,vs3,p1,?_,p3⟩
    match vs3,p2 with
    | [],p2=>exact p2.elim
    | v :: _,⟨q,_⟩=>exact ⟨by show v = .int .i64 (Ef 0); rw [e0,← g3 30 (by decide)]; exact q,trivial⟩
   ·exact hT.blk b hb hc
  ·rcases List.mem_cons.1 hb with rfl | hb <;> rcases List.mem_cons.1 hb' with rfl | hb'
   ·exact absurd rfl hne
   ·exact k2.disj _ List.mem_cons_self b' (List.mem_cons_of_mem _ hb') rfl (allC_nil (htabs b' hb')) hne B B' hB hB'
   ·exact k2.disj b (List.mem_cons_of_mem _ hb) _ List.mem_cons_self (allC_nil (htabs b hb)) rfl hne B B' hB hB'
   ·exact hT.disj b hb b' hb' hc hc' hne B B' hB hB'
  ·rcases List.mem_cons.1 hb with rfl | hb
   ·exact k2.low _ List.mem_cons_self rfl B hB
   ·exact hT.low b hb hc B hB
end
end Go.Proofs.YtbegodiligmphaaGreatDoor.Sy
