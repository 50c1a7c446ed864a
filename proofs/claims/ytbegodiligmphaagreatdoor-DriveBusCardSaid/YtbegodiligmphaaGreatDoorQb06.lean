/- Part of the proof of BusProof. The walk of arctan.Angle, and its contract for the evaluator. MADE BY PROGRAM (genlits.py): contracts as they are written down. Rows of numbers in the evaluator's blocks; the contract of sort.SearchInts over a list of two known numbers. A symbolic evaluator: checked contracts, told of numbers. No program in sight. The package-level tables as they stand in a world; calls of checked contracts that look at nothing else. The arguments and blocks of one contract given out of what stands behind another; what entries are defined to be. MADE BY PROGRAM (gen_awl2.py): calls with known numbers that Awake makes: tables. MADE BY PROGRAM (gen_awl2.py): the literal calls, checked by the kernel. MADE BY PROGRAM (gen_awl2.py): the literal calls, checked by the kernel. MADE BY PROGRAM (gen_awl2.py): the literal calls, checked by the kernel. MADE BY PROGRAM (gen_awl2.py): the literal calls, checked by the kernel. MADE BY PROGRAM (gen_awl2.py): the literal calls hold. The package-level tables out of what a statement's world is known to be. (Begun.) What a statement asks, out of a call in a shaped world (as Derived.Handed, with the world's shape handed on). The arguments of DriveBus opened. -/
import Derived.ChangeOld
import Derived.Deep.Slices
import Derived.Handed
import Derived.LaidMore
import Derived.OpenShut
import Derived.ProofKit
import Derived.Stop.Joined
import Derived.Test.YtbegodiligmphaaGreatDoorRows
import Derived.Test.YtbegodiligmphaaGreatDoorQb00
import Derived.Test.YtbegodiligmphaaGreatDoorQb05
namespace Go.Proofs.YtbegodiligmphaaGreatDoor
open Go Go.RowKit
namespace Sy
def m254 : MLit :=
 {args := [.a (.one (.int .i64 (.e 0)))],
  mem := [],
  nt := 3,k := 1,
  dom := [(0,-9223372036854775808,9223372036854775807)],
  out := .tup [.one (.int .i64 (.e 67)),.one (.int .i64 (.e 68))],
  nw := [],
  dif := [],
  gone := [],nt' := 4,
  ivs := [(67,-65398,65398),(68,-65398,65398)],gl := [],fx := [],mg := [] }
theorem m254_check : m254.check (mkCx []) 20 400 254 = true := by decide +kernel
theorem ctr0_ok (O : Objs) : ∀ I X E f c,(mkCx []).ctr f = some c → CtrOk (mkCx []) O I X E f c := tbl_nil (C := mkCx []) rfl
def Obj0 : Objs := ⟨fun _ _ _ _=>False,fun h=>h.elim⟩
theorem m254_holds : m254.Holds (mkCx []) Obj0 20 400 254 := MLit.holds (C := mkCx []) cx_mix cx_name (ctr0_ok Obj0) m254_check
noncomputable def cosF (a : Int) : Int := m254.ent (mkCx []) 20 400 254 [a] 67
noncomputable def sinF (a : Int) : Int := m254.ent (mkCx []) 20 400 254 [a] 68
end Sy
theorem both_walk (a : Int) (h0 : -9223372036854775808 ≤ a) (h1 : a ≤ 9223372036854775807) (w : World) : Calls Tryz.prog 254 #[.int .i64 a] w fun e w'=>e = .returned (.tuple #[.int .i64 (Sy.cosF a),.int .i64 (Sy.sinF a)]) ∧ Below w.heap.size w w' := by
 have hd : Sy.InDom Sy.m254.dom (Sy.ofL [a]) := fun p hp=>by
  have hp : p ∈ [((0 : Nat),(-9223372036854775808 : Int),(9223372036854775807 : Int))] := hp
  rw [List.mem_singleton] at hp
  subst hp
  exact ⟨h0,h1⟩
 have e0 := Sy.m254_holds.inp [a] hd 0 Nat.zero_lt_one
 have hp := Sy.m254_holds.pure (vs := [.int .i64 a]) (w := w) rfl (fun gl id h=>by
  have h' : (if gl < 3 then some gl else none) = some id := h
  split at h'
  ·injection h' with h'
   exact ⟨h',by rw [← h']; assumption⟩
  ·cases h') hd
 unfold Sy.cosF Sy.sinF
 generalize Sy.m254.ent (Sy.mkCx []) 20 400 254 [a] = F at e0 hp ⊢
 refine Calls.mono (hp ⟨?_,trivial⟩) fun e w' he=>?_
 ·show Value.int .i64 a = .int .i64 (F 0)
  rw [e0]; rfl
 ·obtain ⟨ρ,u,rfl,⟨us,rfl,hs⟩,hq⟩ := he
  match us,hs with
  | [u0,u1],⟨a0,a1,_⟩ =>
   have b0 : u0 = .int .i64 (F 67) := a0
   have b1 : u1 = .int .i64 (F 68) := a1
   rw [b0,b1]
   exact ⟨rfl,hq⟩
theorem wrap64_in (n : Int) (h : -9223372036854775808 ≤ n ∧ n ≤ 9223372036854775807) : wrap64 n = n := by unfold wrap64; omega
def farB (x : Int) : Bool := decide (x > 1099511627776) || decide (x < -1099511627776)
theorem far_walk (x : Int) (w : World) : Calls Tryz.prog 286 #[.int .i64 x] w fun e w'=>e = .returned (.bool (farB x)) ∧ w = w' := by
 go_enter Tryz.func286,Tryz.ntmps286
 by_cases h : 1099511627776 < x
 ·go_wp2
  go_ret
  exact ⟨by simp [farB,h],rfl⟩
 ·go_wp2
  go_ret
  exact ⟨congrArg (fun x=>Ending.returned (.bool x)) (by unfold farB; rw [Bool.eq_iff_iff]; simp; omega),rfl⟩
theorem far_yes {x : Int} (h : farB x = true) (w : World) : Calls Tryz.prog 286 #[.int .i64 x] w fun e w'=>e = .returned (.bool true) ∧ w = w' := h ▸ far_walk x w
theorem far_no {x : Int} (h : farB x = false) (w : World) : Calls Tryz.prog 286 #[.int .i64 x] w fun e w'=>e = .returned (.bool false) ∧ w = w' := h ▸ far_walk x w
def halveF : Nat → Int → Int → Int × Int
 | 0,x,y=>(x,y)
 | n + 1,x,y=>if farB x || farB y then halveF n (x.tdiv 2) (y.tdiv 2) else (x,y)
theorem tdiv2_abs (x : Int) : (x.tdiv 2).natAbs = x.natAbs / 2 := Int.natAbs_tdiv ..
theorem far_abs {x : Int} (h : farB x = true) : 1099511627776 < x.natAbs := by
 unfold farB at h
 simp only [Bool.or_eq_true,decide_eq_true_eq] at h
 omega
theorem halve_more : ∀ {n m : Nat} {x y : Int},x.natAbs + y.natAbs ≤ n → x.natAbs + y.natAbs ≤ m → halveF n x y = halveF m x y := by
 intro n
 induction n with
 | zero =>
  intro m x y h1 h2
  cases m with
  | zero=>rfl
  | succ m =>
   have hx : x = 0 := by omega
   have hy : y = 0 := by omega
   subst hx; subst hy
   rfl
 | succ n ih =>
  intro m x y h1 h2
  cases m with
  | zero =>
   have hx : x = 0 := by omega
   have hy : y = 0 := by omega
   subst hx; subst hy
   rfl
  | succ m =>
   simp only [halveF]
   split
   ·rename_i hf
    have : (x.tdiv 2).natAbs + (y.tdiv 2).natAbs < x.natAbs + y.natAbs := by
     rw [tdiv2_abs,tdiv2_abs]
     rw [Bool.or_eq_true] at hf
     rcases hf with hf | hf
     ·have := far_abs hf; omega
     ·have := far_abs hf; omega
    exact ih (by omega) (by omega)
   ·rfl
def hv (x y : Int) : Int × Int := halveF (x.natAbs + y.natAbs) x y
theorem hv_stop {x y : Int} (h1 : farB x = false) (h2 : farB y = false) : hv x y = (x,y) := by
 unfold hv
 cases x.natAbs + y.natAbs with
 | zero=>rfl
 | succ n=>simp [halveF,h1,h2]
theorem hv_step {x y : Int} (h : farB x = true ∨ farB y = true) : hv x y = hv (x.tdiv 2) (y.tdiv 2) ∧ (x.tdiv 2).natAbs + (y.tdiv 2).natAbs < x.natAbs + y.natAbs := by
 have hlt : (x.tdiv 2).natAbs + (y.tdiv 2).natAbs < x.natAbs + y.natAbs := by
  rw [tdiv2_abs,tdiv2_abs]
  rcases h with hf | hf
  ·have := far_abs hf; omega
  ·have := far_abs hf; omega
 refine ⟨?_,hlt⟩
 unfold hv
 obtain ⟨n,hn⟩ : ∃ n,x.natAbs + y.natAbs = n + 1 := ⟨x.natAbs + y.natAbs - 1,by omega⟩
 rw [hn]
 simp only [halveF]
 rw [if_pos (by rw [Bool.or_eq_true]; exact h)]
 exact halve_more (by omega) (Nat.le_refl _)
theorem tdiv2_in {x : Int} (h0 : -9223372036854775808 ≤ x) (h1 : x ≤ 9223372036854775807) : -9223372036854775808 ≤ x.tdiv 2 ∧ x.tdiv 2 ≤ 9223372036854775807 := by
 have := tdiv2_abs x
 omega
def turn3 (x y : Int) : Int × Int × Int := if 0 < x ∧ 0 ≤ y then (x,y,0) else if 0 < y ∧ x ≤ 0 then (y,-x,1) else if x < 0 ∧ y ≤ 0 then (-x,-y,2) else (-y,x,3)
def firstF (x y : Int) : Int × Int × Int := if (hv x y).1 = 0 ∧ (hv x y).2 = 0 then (1,0,0) else turn3 (hv x y).1 (hv x y).2
theorem far_in {x : Int} (h : farB x = false) : -1099511627776 ≤ x ∧ x ≤ 1099511627776 := by
 unfold farB at h
 simp only [Bool.or_eq_false_iff,decide_eq_false_iff_not] at h
 omega
def rq (x y : Int) : Nat := if 0 < x ∧ 0 ≤ y then 0 else if 0 < y ∧ x ≤ 0 then 1 else if x < 0 ∧ y ≤ 0 then 2 else 3
def RotI (a b p q : Int) (k : Nat) : Prop := (k = 0 ∧ p = a ∧ q = b) ∨ (k = 1 ∧ p = b ∧ q = -a) ∨ (k = 2 ∧ p = -a ∧ q = -b) ∨ (k = 3 ∧ p = -b ∧ q = a)
theorem rot_done {a b p q : Int} {k : Nat} (h : RotI a b p q k) (hk : k ≤ rq a b) (hz : ¬ (a = 0 ∧ b = 0)) (h1 : 0 < p) (h2 : 0 ≤ q) : turn3 a b = (p,q,(k : Int)) := by
 unfold RotI at h
 unfold rq at hk
 unfold turn3
 rcases h with ⟨rfl,rfl,rfl⟩ | ⟨rfl,rfl,rfl⟩ | ⟨rfl,rfl,rfl⟩ | ⟨rfl,rfl,rfl⟩
 ·rw [if_pos ⟨h1,h2⟩]; rfl
 ·rw [if_neg (by omega),if_pos (by omega)]; rfl
 ·rw [if_neg (by omega),if_neg (by omega),if_pos (by omega)]; rfl
 ·rw [if_neg (by omega),if_neg (by omega),if_neg (by omega)]; rfl
theorem rot_next {a b p q : Int} {k : Nat} (h : RotI a b p q k) (hk : k ≤ rq a b) (hz : ¬ (a = 0 ∧ b = 0)) (h1 : ¬ (0 < p ∧ 0 ≤ q)) : RotI a b q (-p) (k + 1) ∧ k + 1 ≤ rq a b ∧ k < 3 := by
 unfold RotI at h ⊢
 unfold rq at hk ⊢
 rcases h with ⟨rfl,rfl,rfl⟩ | ⟨rfl,rfl,rfl⟩ | ⟨rfl,rfl,rfl⟩ | ⟨rfl,rfl,rfl⟩
 ·refine ⟨.inr (.inl ⟨rfl,rfl,rfl⟩),?_,by omega⟩
  rw [if_neg h1]; split <;> (try split) <;> omega
 ·refine ⟨.inr (.inr (.inl ⟨rfl,rfl,rfl⟩)),?_,by omega⟩
  split at hk
  ·omega
  ·rename_i h0
   rw [if_neg h0,if_neg (by omega)]; split <;> omega
 ·refine ⟨.inr (.inr (.inr ⟨rfl,rfl,by omega⟩)),?_,by omega⟩
  split at hk
  ·omega
  ·rename_i h0
   split at hk
   ·omega
   ·rename_i h00
    rw [if_neg h0,if_neg h00,if_neg (by omega)]; omega
 ·exfalso
  split at hk
  ·omega
  ·split at hk
   ·omega
   ·split at hk
    ·omega
    ·omega
theorem rot_abs {a b p q : Int} {k : Nat} (h : RotI a b p q k) (ha : -1099511627776 ≤ a ∧ a ≤ 1099511627776) (hb : -1099511627776 ≤ b ∧ b ≤ 1099511627776) : (-1099511627776 ≤ p ∧ p ≤ 1099511627776) ∧ -1099511627776 ≤ q ∧ q ≤ 1099511627776 := by
 unfold RotI at h
 omega
set_option maxHeartbeats 1600000 in
theorem first_walk (x y : Int) (hx : -9223372036854775808 ≤ x ∧ x ≤ 9223372036854775807) (hy : -9223372036854775808 ≤ y ∧ y ≤ 9223372036854775807) (w : World) :
  Calls Tryz.prog 253 #[.int .i64 x,.int .i64 y] w fun e w'=>e = .returned (.tuple #[.int .i64 (firstF x y).1,.int .i64 (firstF x y).2.1,.int .i64 (firstF x y).2.2]) ∧ w = w' := by
 have HX := Lib.hid hx
 have HY := Lib.hid hy
 clear hx hy
 go_enter Tryz.func253,Tryz.ntmps253
 go_wp2
 go_loopw [0,1] (fun u v wr=>∃ a b : Int,u = .int .i64 a ∧ v = .int .i64 b ∧ Hid (hv x y = hv a b) ∧ Hid ((-9223372036854775808 ≤ a ∧ a ≤ 9223372036854775807) ∧ -9223372036854775808 ≤ b ∧ b ≤ 9223372036854775807) ∧ wr = w) (fun u v _=>(intOf u).natAbs + (intOf v).natAbs)
 case atStart=>exact ⟨x,y,rfl,rfl,rfl,⟨HX.out,HY.out⟩,rfl⟩
 case round =>
 obtain ⟨a,b,rfl,rfl,he,hab,rfl⟩ := hrel
 cases ha : farB a with
 | true =>
  go_wp2_with fail
  refine (far_yes ha _).mono ?_
  rintro e w' ⟨rfl,rfl⟩
  have hs := hv_step (.inl ha) (y := b)
  have ra := tdiv2_in hab.out.1.1 hab.out.1.2
  have rb := tdiv2_in hab.out.2.1 hab.out.2.2
  have RA := Lib.hid ra
  have RB := Lib.hid rb
  have HS := Lib.hid hs
  clear ra rb hs
  go_wp2
  go_roundw
  case rel=>exact ⟨a.tdiv 2,b.tdiv 2,by rw [wrap64_in _ RA.out],by rw [wrap64_in _ RB.out],he.out.trans HS.out.1,⟨RA.out,RB.out⟩,trivial⟩
  case measure =>
   show (intOf (.int .i64 (wrap64 (a.tdiv 2)))).natAbs + (intOf (.int .i64 (wrap64 (b.tdiv 2)))).natAbs < _
   rw [wrap64_in _ RA.out,wrap64_in _ RB.out]
   exact HS.out.2
 | false =>
  go_wp2_with fail
  refine (far_no ha _).mono ?_
  rintro e w' ⟨rfl,rfl⟩
  cases hb : farB b with
  | true =>
   go_wp2_with fail
   refine (far_yes hb _).mono ?_
   rintro e w' ⟨rfl,rfl⟩
   have hs := hv_step (.inr hb) (x := a)
   have ra := tdiv2_in hab.out.1.1 hab.out.1.2
   have rb := tdiv2_in hab.out.2.1 hab.out.2.2
   have RA := Lib.hid ra
   have RB := Lib.hid rb
   have HS := Lib.hid hs
   clear ra rb hs
   go_wp2
   go_roundw
   case rel=>exact ⟨a.tdiv 2,b.tdiv 2,by rw [wrap64_in _ RA.out],by rw [wrap64_in _ RB.out],he.out.trans HS.out.1,⟨RA.out,RB.out⟩,trivial⟩
   case measure =>
    show (intOf (.int .i64 (wrap64 (a.tdiv 2)))).natAbs + (intOf (.int .i64 (wrap64 (b.tdiv 2)))).natAbs < _
    rw [wrap64_in _ RA.out,wrap64_in _ RB.out]
    exact HS.out.2
  | false =>
   go_wp2_with fail
   refine (far_no hb _).mono ?_
   rintro e w' ⟨rfl,rfl⟩
   have hf : firstF x y = if a = 0 ∧ b = 0 then (1,0,0) else turn3 a b := by
    unfold firstF
    rw [he.out,hv_stop ha hb]
   have ia := far_in ha
   have ib := far_in hb
   have HF := Lib.hid hf
   have IA := Lib.hid ia
   have IB := Lib.hid ib
   clear hf ia ib ha hb
   by_cases hz : a = 0 ∧ b = 0
   ·obtain ⟨rfl,rfl⟩ := hz
    go_wp2
    go_ret3
    exact ⟨by rw [show firstF x y = (1,0,0) by rw [HF.out]; simp]; rfl,rfl⟩
   ·have hz' : ¬ (a = 0 ∧ b = 0) := hz
    have HZ := Lib.hid hz'
    clear hz hz'
    rcases Classical.em (a = 0) with ha0 | ha0
    ·have hb0 : ¬ b = 0 := fun h=>HZ.out ⟨ha0,h⟩
     go_wp2
     go_loopw [0,1,7] (fun u v t wr'=>∃ (p q : Int) (k : Nat),u = .int .i64 p ∧ v = .int .i64 q ∧ t = .int .i64 k ∧ Hid (RotI a b p q k) ∧ Hid (k ≤ rq a b) ∧ wr' = wr) (fun _ _ t _=>4 - (intOf t).toNat)
     case atStart=>exact ⟨a,b,0,by rw [ha0],rfl,rfl,.inl ⟨rfl,rfl,rfl⟩,Nat.zero_le _,rfl⟩
     case round =>
     obtain ⟨p,q,k,rfl,rfl,rfl,hr,hk,rfl⟩ := hrel
     rcases Classical.em (0 < p) with hp | hp
     ·rcases Classical.em (0 ≤ q) with hq | hq
      ·have hd := rot_done hr.out hk.out HZ.out hp hq
       have HD := Lib.hid hd
       clear hd
       go_wp2
       go_ret3
       exact ⟨by rw [HF.out,if_neg HZ.out,HD.out]; rfl,rfl⟩
      ·have hn := rot_next hr.out hk.out HZ.out (fun h=>hq h.2)
       have hab' := rot_abs hr.out IA.out IB.out
       have HN := Lib.hid hn
       have HA := Lib.hid hab'
       clear hn hab'
       have e1 : wrap64 (-p) = -p := wrap64_in _ (by have := HA.out; omega)
       have e2 : wrap64 ((k : Int) + 1) = ((k + 1 : Nat) : Int) := by rw [wrap64_in _ (by have := HN.out; omega)]; rfl
       go_wp2
       go_roundw
       case rel=>exact ⟨q,-p,k + 1,rfl,by first | rfl | rw [e1],by first | rfl | rw [e2],HN.out.1,HN.out.2.1,trivial⟩
       case measure=>(show 4 - (intOf (.int .i64 (wrap64 ((k : Int) + 1)))).toNat < 4 - (intOf (.int .i64 (k : Int))).toNat; rw [e2]; have := HN.out; simp only [intOf]; omega)
     ·have hn := rot_next hr.out hk.out HZ.out (fun h=>hp h.1)
      have hab' := rot_abs hr.out IA.out IB.out
      have HN := Lib.hid hn
      have HA := Lib.hid hab'
      clear hn hab'
      have e1 : wrap64 (-p) = -p := wrap64_in _ (by have := HA.out; omega)
      have e2 : wrap64 ((k : Int) + 1) = ((k + 1 : Nat) : Int) := by rw [wrap64_in _ (by have := HN.out; omega)]; rfl
      go_wp2
      go_roundw
      case rel=>exact ⟨q,-p,k + 1,rfl,by first | rfl | rw [e1],by first | rfl | rw [e2],HN.out.1,HN.out.2.1,trivial⟩
      case measure=>(show 4 - (intOf (.int .i64 (wrap64 ((k : Int) + 1)))).toNat < 4 - (intOf (.int .i64 (k : Int))).toNat; rw [e2]; have := HN.out; simp only [intOf]; omega)
    ·go_wp2
     go_loopw [0,1,7] (fun u v t wr'=>∃ (p q : Int) (k : Nat),u = .int .i64 p ∧ v = .int .i64 q ∧ t = .int .i64 k ∧ Hid (RotI a b p q k) ∧ Hid (k ≤ rq a b) ∧ wr' = wr) (fun _ _ t _=>4 - (intOf t).toNat)
     case atStart=>exact ⟨a,b,0,rfl,rfl,rfl,.inl ⟨rfl,rfl,rfl⟩,Nat.zero_le _,rfl⟩
     case round =>
     obtain ⟨p,q,k,rfl,rfl,rfl,hr,hk,rfl⟩ := hrel
     rcases Classical.em (0 < p) with hp | hp
     ·rcases Classical.em (0 ≤ q) with hq | hq
      ·have hd := rot_done hr.out hk.out HZ.out hp hq
       have HD := Lib.hid hd
       clear hd
       go_wp2
       go_ret3
       exact ⟨by rw [HF.out,if_neg HZ.out,HD.out]; rfl,rfl⟩
      ·have hn := rot_next hr.out hk.out HZ.out (fun h=>hq h.2)
       have hab' := rot_abs hr.out IA.out IB.out
       have HN := Lib.hid hn
       have HA := Lib.hid hab'
       clear hn hab'
       have e1 : wrap64 (-p) = -p := wrap64_in _ (by have := HA.out; omega)
       have e2 : wrap64 ((k : Int) + 1) = ((k + 1 : Nat) : Int) := by rw [wrap64_in _ (by have := HN.out; omega)]; rfl
       go_wp2
       go_roundw
       case rel=>exact ⟨q,-p,k + 1,rfl,by first | rfl | rw [e1],by first | rfl | rw [e2],HN.out.1,HN.out.2.1,trivial⟩
       case measure=>(show 4 - (intOf (.int .i64 (wrap64 ((k : Int) + 1)))).toNat < 4 - (intOf (.int .i64 (k : Int))).toNat; rw [e2]; have := HN.out; simp only [intOf]; omega)
     ·have hn := rot_next hr.out hk.out HZ.out (fun h=>hp h.1)
      have hab' := rot_abs hr.out IA.out IB.out
      have HN := Lib.hid hn
      have HA := Lib.hid hab'
      clear hn hab'
      have e1 : wrap64 (-p) = -p := wrap64_in _ (by have := HA.out; omega)
      have e2 : wrap64 ((k : Int) + 1) = ((k + 1 : Nat) : Int) := by rw [wrap64_in _ (by have := HN.out; omega)]; rfl
      go_wp2
      go_roundw
      case rel=>exact ⟨q,-p,k + 1,rfl,by first | rfl | rw [e1],by first | rfl | rw [e2],HN.out.1,HN.out.2.1,trivial⟩
      case measure=>(show 4 - (intOf (.int .i64 (wrap64 ((k : Int) + 1)))).toNat < 4 - (intOf (.int .i64 (k : Int))).toNat; rw [e2]; have := HN.out; simp only [intOf]; omega)
theorem turn3_t (x y : Int) : 0 ≤ (turn3 x y).2.2 ∧ (turn3 x y).2.2 ≤ 3 := by
 unfold turn3
 split
 ·exact ⟨Int.le_refl 0,(by decide : (0 : Int) ≤ 3)⟩
 ·split
  ·exact ⟨(by decide : (0 : Int) ≤ 1),(by decide : (1 : Int) ≤ 3)⟩
  ·split
   ·exact ⟨(by decide : (0 : Int) ≤ 2),(by decide : (2 : Int) ≤ 3)⟩
   ·exact ⟨(by decide : (0 : Int) ≤ 3),Int.le_refl 3⟩
theorem firstF_t (x y : Int) : 0 ≤ (firstF x y).2.2 ∧ (firstF x y).2.2 ≤ 3 := by
 unfold firstF
 split
 ·exact ⟨by decide,by decide⟩
 ·exact turn3_t _ _
noncomputable def binF (x y : Int) : Nat → Int → Int → Int
 | 0,lo,_=>lo
 | n + 1,lo,hi=>if lo < hi then (if wrap64 (Sy.sinF ((lo + hi + 1) / 2) * x) ≤ wrap64 (Sy.cosF ((lo + hi + 1) / 2) * y) then binF x y n ((lo + hi + 1) / 2) hi else binF x y n lo ((lo + hi + 1) / 2 - 1)) else lo
theorem bin_more {x y : Int} : ∀ {n m : Nat} {lo hi : Int},hi - lo ≤ n → hi - lo ≤ m → binF x y n lo hi = binF x y m lo hi := by
 intro n
 induction n with
 | zero =>
  intro m lo hi h1 h2
  cases m with
  | zero=>rfl
  | succ m=>simp only [binF]; rw [if_neg (by omega)]
 | succ n ih =>
  intro m lo hi h1 h2
  cases m with
  | zero=>simp only [binF]; rw [if_neg (by omega)]
  | succ m =>
   simp only [binF]
   split
   ·split
    ·exact ih (by omega) (by omega)
    ·exact ih (by omega) (by omega)
   ·rfl
noncomputable def bin (x y lo hi : Int) : Int := binF x y (hi - lo).toNat lo hi
theorem bin_end {x y lo hi : Int} (h : ¬ lo < hi) : bin x y lo hi = lo := by
 unfold bin
 cases (hi - lo).toNat with
 | zero=>rfl
 | succ n=>simp only [binF]; rw [if_neg h]
theorem bin_step {x y lo hi : Int} (h : lo < hi) : bin x y lo hi = if wrap64 (Sy.sinF ((lo + hi + 1) / 2) * x) ≤ wrap64 (Sy.cosF ((lo + hi + 1) / 2) * y) then bin x y ((lo + hi + 1) / 2) hi else bin x y lo ((lo + hi + 1) / 2 - 1) := by
 unfold bin
 obtain ⟨n,hn⟩ : ∃ n,(hi - lo).toNat = n + 1 := ⟨(hi - lo).toNat - 1,by omega⟩
 rw [hn]
 simp only [binF]
 rw [if_pos h]
 split
 ·exact bin_more (by omega) (by omega)
 ·exact bin_more (by omega) (by omega)
theorem binF_in {x y : Int} : ∀ {n : Nat} {lo hi : Int},0 ≤ lo → lo ≤ hi → hi ≤ 16383 → 0 ≤ binF x y n lo hi ∧ binF x y n lo hi ≤ 16383 := by
 intro n
 induction n with
 | zero=>intro lo hi h1 h2 h3; simp only [binF]; omega
 | succ n ih =>
  intro lo hi h1 h2 h3
  simp only [binF]
  split
  ·split
   ·exact ih (by omega) (by omega) (by omega)
   ·exact ih (by omega) (by omega) (by omega)
  ·omega
noncomputable def atanF (x y : Int) : Int := bin (firstF x y).1 (firstF x y).2.1 0 16383 + (firstF x y).2.2 * 16384
theorem atanF_in (x y : Int) : 0 ≤ atanF x y ∧ atanF x y ≤ 65535 := by
 unfold atanF bin
 have h1 := binF_in (x := (firstF x y).1) (y := (firstF x y).2.1) (n := ((16383 : Int) - 0).toNat) (lo := 0) (hi := 16383) (by decide) (by decide) (by decide)
 have h2 := firstF_t x y
 omega
set_option maxHeartbeats 1600000 in
theorem atan_walk (x y : Int) (hx : -9223372036854775808 ≤ x ∧ x ≤ 9223372036854775807) (hy : -9223372036854775808 ≤ y ∧ y ≤ 9223372036854775807) (w : World) :
  Calls Tryz.prog 208 #[.int .i64 x,.int .i64 y] w fun e w'=>e = .returned (.int .i64 (atanF x y)) ∧ Below w.heap.size w w' := by
 have hT := firstF_t x y
 obtain ⟨p,q,t,hf⟩ : ∃ p q t,firstF x y = (p,q,t) := ⟨_,_,_,rfl⟩
 have hA : atanF x y = bin p q 0 16383 + t * 16384 := by unfold atanF; rw [hf]
 have hFW := first_walk x y hx hy
 rw [hf] at hT hFW
 simp only at hT hFW
 have HT := Lib.hid hT
 have HA := Lib.hid hA
 have HFW := Lib.hid hFW
 clear hT hA hf hFW hx hy
 go_enter Tryz.func208,Tryz.ntmps208
 go_wp2_with fail
 refine (HFW.out _).mono ?_
 rintro e w' ⟨rfl,rfl⟩
 have hb0 := Below.refl w.heap.size w
 go_wp2
 go_loopw [6,7] (fun u v wr=>∃ a b : Int,u = .int .i64 a ∧ v = .int .i64 b ∧ Hid (bin p q 0 16383 = bin p q a b) ∧ Hid (0 ≤ a ∧ a ≤ b ∧ b ≤ 16383) ∧ Below w.heap.size w wr) (fun u v _=>(intOf v - intOf u).toNat)
 case atStart=>exact ⟨0,16383,rfl,rfl,rfl,⟨by decide,by decide,by decide⟩,hb0⟩
 case round =>
 clear hb0
 obtain ⟨a,b,rfl,rfl,he,hab,hb⟩ := hrel
 rcases Classical.em (a < b) with hlt | hlt
 ·obtain ⟨m,hm⟩ : ∃ m : Int,(a + b + 1) / 2 = m := ⟨_,rfl⟩
  have hm1 : a < m ∧ m ≤ b := by omega
  have hst := bin_step (x := p) (y := q) hlt
  rw [hm] at hst
  have e1 : wrap64 (a + b) = a + b := wrap64_in _ (by have := hab.out; omega)
  have e2 : wrap64 (a + b + 1) = a + b + 1 := wrap64_in _ (by have := hab.out; omega)
  have e3 : (a + b + 1).tdiv 2 = m := by rw [Int.tdiv_eq_ediv_of_nonneg (by have := hab.out; omega)]; exact hm
  have e4 : wrap64 m = m := wrap64_in _ (by have := hab.out; omega)
  have e5 : wrap64 (m - 1) = m - 1 := wrap64_in _ (by have := hab.out; omega)
  have HM := Lib.hid hm1
  have HST := Lib.hid hst
  clear hm hm1 hst
  go_wp2_with fail
  refine (both_walk m (by have := HM.out; have := hab.out; omega) (by have := HM.out; have := hab.out; omega) _).mono ?_
  rintro e w' ⟨rfl,hq⟩
  replace hb := hb.trans (hq.mono hb.size)
  clear hq
  rcases Classical.em (wrap64 (Sy.sinF m * p) ≤ wrap64 (Sy.cosF m * q)) with hc | hc
  ·have HC := Lib.hid hc
   go_wp2
   go_roundw
   case rel=>exact ⟨m,b,rfl,rfl,he.out.trans (HST.out.trans (if_pos HC.out)),⟨by have := HM.out; have := hab.out; omega,HM.out.2,hab.out.2.2⟩,hb⟩
   case measure=>(show (intOf (.int .i64 b) - intOf (.int .i64 m)).toNat < (intOf (.int .i64 b) - intOf (.int .i64 a)).toNat; have := HM.out; simp only [intOf]; omega)
  ·have HC := Lib.hid hc
   go_wp2
   go_roundw
   case rel=>exact ⟨a,m - 1,rfl,by first | rfl | rw [e5],he.out.trans (HST.out.trans (if_neg (Int.not_le.2 HC.out))),⟨by have := hab.out; omega,by have := HM.out; omega,by have := HM.out; have := hab.out; omega⟩,hb⟩
   case measure=>(show (intOf (.int .i64 (wrap64 (m - 1))) - intOf (.int .i64 a)).toNat < (intOf (.int .i64 b) - intOf (.int .i64 a)).toNat; rw [e5]; have := HM.out; simp only [intOf]; omega)
 ·have hend := bin_end (x := p) (y := q) hlt
  have hlt2 := Int.not_lt.1 hlt
  have HE := Lib.hid (he.out.trans hend)
  clear hend
  have e1 : wrap64 (t * 16384) = t * 16384 := wrap64_in _ (by have := HT.out; omega)
  have e2 : wrap64 (a + t * 16384) = a + t * 16384 := wrap64_in _ (by have := HT.out; have := hab.out; omega)
  go_wp2
  go_ret
  exact ⟨by rw [HA.out,HE.out]; rfl,hb⟩
namespace Sy
noncomputable def atanS : Sum := ⟨[.a (.one (.int .i64 (.e 0))),.a (.one (.int .i64 (.e 1)))],2,[(0,-9223372036854775808,9223372036854775807),(1,-9223372036854775808,9223372036854775807)],.a (.one (.int .i64 (.e 2))),fun _ xs=>atanF (xs.getD 0 0) (xs.getD 1 0),fun _=>(0,65535),[]⟩
theorem atanS_ok {C : Cx} {O : Objs} (hP : C.P = Tryz.prog) : ∀ I X E,CtrOk C O I X E 208 atanS.ctr := by
 refine Sum.of atanS ⟨_,_,by rw [hP]; exact Tryz.func208,rfl⟩ fun xs hl hd Ef h1 h2 ρ vs w hs=>?_
 match vs,hs with
 | [v0,v1],⟨a0,a1,_⟩ =>
  have b0 : v0 = .int .i64 (Ef 0) := a0
  have b1 : v1 = .int .i64 (Ef 1) := a1
  have d0 := hd (0,-9223372036854775808,9223372036854775807) (by simp [atanS])
  have d1 := hd (1,-9223372036854775808,9223372036854775807) (by simp [atanS])
  have e0 := h1 0 (by show 0 < 2; decide)
  have e1 := h1 1 (by show 1 < 2; decide)
  rw [hP,b0,b1,e0,e1]
  refine Calls.mono (atan_walk (xs.getD 0 0) (xs.getD 1 0) d0 d1 w) fun e w' he=>?_
  obtain ⟨rfl,hq⟩ := he
  refine ⟨_,rfl,?_,hq⟩
  show Value.int .i64 _ = .int .i64 (Ef 2)
  rw [h2 2 (by show 2 ≤ 2; decide)]
  have := atanF_in (xs.getD 0 0) (xs.getD 1 0)
  have h3 : clampI 0 65535 (atanF (xs.getD 0 0) (xs.getD 1 0)) = atanF (xs.getD 0 0) (xs.getD 1 0) := by
   unfold clampI
   rw [if_neg (by decide),if_pos this]
  exact congrArg _ h3.symm
end Sy
end Go.Proofs.YtbegodiligmphaaGreatDoor
namespace Go.Proofs.YtbegodiligmphaaGreatDoor.Sy
open Go
noncomputable def tb0 : List (FuncId × Ctr) := []
def l254 : Lit :=
 {args := [SV.a (SA.one (iE 0))],k := 1,
  dom := [(0,mI,mA)],
  out := .tup [.one (iE 67),.one (iE 68)],
  ivs := [(67,-65398,65398),(68,-65398,65398)],tabs := [] }
noncomputable def tb1 : List (FuncId × Ctr) := (254,(l254.sum (mkCx tb0) 20 400 254 3).ctr) :: tb0
def l216 : Lit :=
 {
  args :=
   [SV.a (SA.one (iE 0)),SV.a (SA.one (iE 1)),
    SV.a (SA.one (iE 2))],
  k := 3,
  dom :=
   [(0,mI,mA),
    (1,mI,mA),
    (2,mI,mA)],
  out := .tup [.one (iE 32),.one (iE 33),.one (.mix (.e 18) (.nilI) (.ifc 116 (iC 3)))],
  ivs := [(32,-281474976710656,281474976710655),(33,-281474976710656,281474976710655),(18,0,1)],tabs := [] }
noncomputable def tb2 : List (FuncId × Ctr) := (216,(l216.sum (mkCx tb1) 20 400 216 3).ctr) :: tb1
def l219 : Lit :=
 {args := [SV.a (SA.one (iE 0))],k := 1,
  dom := [(0,mI,mA)],
  out := .a (.one (iE 260)),
  ivs := [(260,0,9223372036854775807)],tabs := [] }
noncomputable def tb3 : List (FuncId × Ctr) := (219,(l219.sum (mkCx tb2) 20 400 219 3).ctr) :: tb2
def l155 : Lit :=
 {args := [SV.a (SA.one (iE 0)),SV.a (SA.one (iE 1))],
  k := 2,
  dom :=
   [(0,mI,mA),
    (1,mI,mA)],
  out := .tup [.one (iE 64),.one (.mix (.e 56) (.nilI) (.ifc 116 (iC 3)))],
  ivs := [(64,0,9223372036854775807),(56,0,1)],tabs := [] }
noncomputable def tb4 : List (FuncId × Ctr) := (155,(l155.sum (mkCx tb3) 20 400 155 3).ctr) :: tb3
def l212 : Lit :=
 {args := [SV.a (SA.one (iE 0))],k := 1,
  dom := [(0,mI,mA)],
  out := .a (.one (iE 1)),
  ivs := [(1,0,65535)],tabs := [] }
noncomputable def tb5 : List (FuncId × Ctr) := (212,(l212.sum (mkCx tb4) 20 400 212 3).ctr) :: tb4
def l251 : Lit :=
 {args := [SV.a (SA.one (iE 0)),SV.a (SA.one (iE 1))],
  k := 2,
  dom :=
   [(0,mI,mA),
    (1,mI,mA)],
  out := .a (.one (iE 7)),
  ivs := [(7,-32768,32767)],tabs := [] }
noncomputable def tb6 : List (FuncId × Ctr) := (251,(l251.sum (mkCx tb5) 20 400 251 3).ctr) :: tb5
def l153 : Lit :=
 {
  args :=
   [SV.a (SA.one (iE 0)),SV.a (SA.one (iE 1)),
    SV.a (SA.one (iE 2))],
  k := 3,
  dom :=
   [(0,mI,mA),
    (1,mI,mA),
    (2,mI,mA)],
  out := .tup [.one (iE 13),.one (iE 14),.one (.mix (.e 15) (.nilI) (.ifc 116 (iC 3)))],
  ivs := [(13,-281474976710656,281474976710655),(14,-281474976710656,281474976710655),(15,0,1)],tabs := [] }
noncomputable def tb7 : List (FuncId × Ctr) := (153,(l153.sum (mkCx tb6) 20 400 153 3).ctr) :: tb6
def l235 : Lit :=
 {
  args :=
   [SV.a (SA.one (iE 0)),SV.a (SA.one (iE 1)),
    SV.a (SA.one (iE 2))],
  k := 3,
  dom :=
   [(0,mI,mA),
    (1,mI,mA),
    (2,mI,mA)],
  out := .tup [.one (iE 9),.one (iE 10),.one (.mix (.e 11) (.nilI) (.ifc 116 (iC 3)))],
  ivs := [(9,-281474976710656,281474976710655),(10,-281474976710656,281474976710655),(11,0,1)],tabs := [] }
noncomputable def tb8 : List (FuncId × Ctr) := (235,(l235.sum (mkCx tb7) 20 400 235 3).ctr) :: tb7
def l142 : Lit :=
 {
  args :=
   [SV.a (SA.one (iE 0)),SV.a (SA.one (iE 1)),
    SV.a (SA.one (iE 2))],
  k := 3,
  dom :=
   [(0,mI,mA),
    (1,mI,mA),
    (2,mI,mA)],
  out := .tup [.one (iE 96),.one (iE 97),.one (.mix (.e 87) (.nilI) (.mix (.e 65) (.nilI) (.ifc 116 (iC 3))))],
  ivs := [(96,-3074457345618258602,3074457345618258602),(97,-140737488355328,140737488355327),(87,0,1),(65,0,1)],tabs := [] }
noncomputable def tb9 : List (FuncId × Ctr) := (142,(l142.sum (mkCx tb8) 20 400 142 3).ctr) :: tb8
def l280 : Lit :=
 {args := [SV.a (SA.one (iE 0)),SV.a (SA.one (iE 1))],
  k := 2,
  dom :=
   [(0,mI,mA),
    (1,mI,mA)],
  out := .tup [.agg [iE 64,iE 65,iE 66],.one (.mix (.e 56) (.nilI) (.mix (.e 34) (.nilI) (.ifc 116 (iC 3))))],
  ivs := [(64,mI,mA),(65,-70368744177664,70368744177663),(66,mI,mA),(56,0,1),(34,0,1)],tabs := [] }
noncomputable def tb10 : List (FuncId × Ctr) := (280,(l280.sum (mkCx tb9) 20 400 280 3).ctr) :: tb9
def l255 : Lit :=
 {args := [SV.a (SA.one (iE 0)),SV.a (SA.one (iE 1))],
  k := 2,
  dom :=
   [(0,mI,mA),
    (1,mI,mA)],
  out := .a (.one (iE 8)),
  ivs := [(8,-32767,32768)],tabs := [] }
noncomputable def tb11 : List (FuncId × Ctr) := (255,(l255.sum (mkCx tb10) 20 400 255 3).ctr) :: tb10
def l259 : Lit :=
 {
  args :=
   [SV.a (SA.one (iE 0)),SV.a (SA.one (iE 1)),
    SV.a (SA.one (iE 2))],
  k := 3,
  dom :=
   [(0,mI,mA),
    (1,mI,mA),
    (2,mI,mA)],
  out := .tup [.one (iE 42),.one (bE 43)],
  ivs := [(42,0,65535),(43,0,1)],tabs := [] }
noncomputable def tb12 : List (FuncId × Ctr) := (259,(l259.sum (mkCx tb11) 20 400 259 3).ctr) :: tb11
def l281 : Lit :=
 {args := [SV.a (SA.one (iE 0)),SV.a (SA.one (iE 1))],
  k := 2,
  dom :=
   [(0,mI,mA),
    (1,Int.ofNat 1,mA)],
  out := .a (.one (iE 9)),
  ivs := [(9,mI,mA)],tabs := [] }
noncomputable def tb13 : List (FuncId × Ctr) := (281,(l281.sum (mkCx tb12) 20 400 281 3).ctr) :: tb12
def l236 : Lit :=
 {
  args :=
   [SV.a (SA.one (iE 0)),SV.a (SA.one (iE 1)),
    SV.a (SA.one (iE 2)),SV.a (SA.one (iE 3))],
  k := 4,
  dom :=
   [(0,mI,mA),
    (1,mI,mA),
    (2,mI,mA),
    (3,mI,mA)],
  out := .tup [.agg [iE 187,iE 188,iE 189,bE 190],.one (.mix (.e 42) (.mix (.e 59) (.nilI) (.mix (.e 50) (.nilI) (.mix (.e 51) (.nilI) (.ifc 116 (iC 3))))) (.ifc 116 (iC 3)))],
  ivs := [(187,0,9223372036854775807),(188,0,9223372036854775807),(189,0,9223372036854775807),(190,0,1),(42,0,1),(59,0,1),(50,0,1),(51,0,1)],tabs := [] }
noncomputable def tb14 : List (FuncId × Ctr) := (236,(l236.sum (mkCx tb13) 20 400 236 3).ctr) :: tb13
def l231 : Lit :=
 {
  args :=
   [SV.a
     (SA.agg
      [iE 0,iE 1,iE 2,
       iE 3]),
    SV.a (SA.agg [iE 4]),SV.a (SA.one (iE 5))],
  k := 6,
  dom :=
   [(0,mI,mA),
    (1,mI,mA),
    (2,mI,mA),
    (3,mI,mA),
    (4,mI,mA),
    (5,mI,mA)],
  out := .tup [.agg [iE 204],.one (iE 202),.one (.mix (.e 155) (.nilI) (.mix (.e 123) (.nilI) (.ifc 116 (iC 3))))],
  ivs := [(204,mI,mA),(202,mI,mA),(155,0,1),(123,0,1)],tabs := [] }
noncomputable def tb15 : List (FuncId × Ctr) := (231,(l231.sum (mkCx tb14) 20 400 231 3).ctr) :: tb14
def l268 : Lit :=
 {
  args :=
   [SV.a
     (SA.agg
      [iE 0,iE 1,iE 2])],
  k := 3,
  dom :=
   [(0,mI,mA),
    (1,mI,mA),
    (2,mI,mA)],
  out := .a (.one (iE 7)),
  ivs := [(7,-16384,16384)],tabs := [] }
noncomputable def tb16 : List (FuncId × Ctr) := (268,(l268.sum (mkCx tb15) 20 400 268 3).ctr) :: tb15
def l275 : Lit :=
 {args := [SV.a (SA.one (iE 0)),SV.a (SA.one (iE 1))],
  k := 2,
  dom :=
   [(0,mI,mA),
    (1,mI,mA)],
  out := .a (.one (iE 9)),
  ivs := [(9,-1686630400,1686630400)],tabs := [] }
noncomputable def tb17 : List (FuncId × Ctr) := (275,(l275.sum (mkCx tb16) 20 400 275 3).ctr) :: tb16
def l272 : Lit :=
 {args := [SV.a (SA.agg [iE 0,iE 1])],k := 2,
  dom :=
   [(0,mI,mA),
    (1,mI,mA)],
  out := .a (.agg [iE 3,iE 5]),
  ivs := [(3,-1048576,1048576),(5,-1048576,1048576)],tabs := [] }
noncomputable def tb18 : List (FuncId × Ctr) := (272,(l272.sum (mkCx tb17) 20 400 272 3).ctr) :: tb17
def l274 : Lit :=
 {
  args :=
   [SV.a
     (SA.agg
      [iE 0,iE 1,iE 2,
       iE 3]),
    SV.a (SA.agg [iE 4]),SV.a (SA.one (iE 5)),
    SV.a (SA.one (iE 6))],
  k := 7,
  dom :=
   [(0,mI,mA),
    (1,mI,mA),
    (2,mI,mA),
    (3,mI,mA),
    (4,mI,mA),
    (5,mI,mA),
    (6,mI,mA)],
  out := .tup [.agg [iE 0,iE 1,iE 2,iE 3,iE 4,iE 20,iE 7,iE 21],.one (.mix (.e 22) (.nilI) (.mix (.e 23) (.nilI) (.ifc 116 (iC 3))))],
  ivs := [(20,mI,mA),(7,mI,mA),(21,mI,mA),(22,0,1),(23,0,1)],tabs := [] }
noncomputable def tb19 : List (FuncId × Ctr) := (274,(l274.sum (mkCx tb18) 20 400 274 3).ctr) :: tb18
def l234 : Lit :=
 {
  args :=
   [SV.a
     (SA.agg
      (sq76 ++ [iE 10])),
    SV.a (SA.agg [iE 11,iE 12]),
    SV.a
     (SA.agg
      [iE 13,iE 14,iE 15,
       iE 16,iE 17,
       iE 18,bE 19])],
  k := 20,
  dom :=
   (sq28 ++ [(9,mI,mA),(10,mI,mA),(11,mI,mA),(12,mI,mA),(13,mI,mA),(14,mI,mA),(15,mI,mA),(16,mI,mA),(17,mI,mA),(18,mI,mA)]),
  out := .tup [.agg [iE 884,iE 885],.agg [iE 882,iE 883],.one (.mix (.e 416) (.mix (.e 457) (.mix (.e 486) (.mix (.e 666) (.nilI) (.mix (.e 648) (.nilI) (.ifc 116 (iC 3)))) (.mix (.e 477) (.nilI) (.mix (.e 478) (.nilI) (.ifc 116 (iC 3))))) (.mix (.e 448) (.nilI) (.mix (.e 449) (.nilI) (.ifc 116 (iC 3))))) (.mix (.e 348) (.mix (.e 390) (.nilI) (.ifc 116 (iC 3))) (.mix (.e 170) (.mix (.e 300) (.nilI) (.ifc 116 (iC 3))) (.mix (.e 137) (.nilI) (.ifc 116 (iC 3))))))],
  ivs := [(884,mI,mA),(885,mI,mA),(882,-1048576,1048576),(883,-9223372036854775807,9223372036854775807),(416,0,1),(457,0,1),(486,0,1),(666,0,1),(648,0,1),(477,0,1),(478,0,1),(448,0,1),(449,0,1),(348,0,1),(390,0,1),(170,0,1),(300,0,1),(137,0,1)],tabs := [] }
noncomputable def tb20 : List (FuncId × Ctr) := (234,(l234.sum (mkCx tb19) 20 400 234 3).ctr) :: tb19
def l201 : Lit :=
 {
  args :=
   [SV.a
     (SA.agg
      [iE 0,iE 1,iE 2,
       iE 3,iE 4,iE 5,
       bE 6])],
  k := 7,
  dom :=
   [(0,mI,mA),
    (1,mI,mA),
    (2,mI,mA),
    (3,mI,mA),
    (4,mI,mA),
    (5,mI,mA)],
  out := .a (.agg [iE 9,iE 11,iE 13,iE 15,iE 17,iE 19,bE 6]),
  ivs := [(9,0,5),(11,-1,1),(13,0,1048576),(15,0,1048576),(17,0,1099511627776),(19,0,1099511627776)],tabs := [] }
noncomputable def tb21 : List (FuncId × Ctr) := (201,(l201.sum (mkCx tb20) 20 400 201 3).ctr) :: tb20
def l199 : Lit :=
 {args := [SV.a (SA.agg [bE 0,bE 1,bE 2])],k := 3,dom := [],
  out := .a (.one (iE 24)),
  ivs := [(24,0,3)],tabs := [] }
noncomputable def tb22 : List (FuncId × Ctr) := (199,(l199.sum (mkCx tb21) 20 400 199 3).ctr) :: tb21
def l200 : Lit :=
 {
  args :=
   [SV.a (SA.one (iE 0)),SV.a (SA.one (iE 1)),
    SV.a (SA.one (iE 2))],
  k := 3,
  dom :=
   [(0,mI,mA),
    (1,mI,mA),
    (2,mI,mA)],
  out := .a (.one (iE 4)),
  ivs := [(4,mI,mA)],tabs := [] }
noncomputable def tb23 : List (FuncId × Ctr) := (200,(l200.sum (mkCx tb22) 20 400 200 3).ctr) :: tb22
def l140 : Lit :=
 {
  args :=
   [SV.a (SA.agg [iE 0,iE 1]),
    SV.a
     (SA.agg
      [iE 2,iE 3,iE 4,
       iE 5,bE 6,bE 7,bE 8]),
    SV.a (SA.agg [bE 9,bE 10,bE 11])],
  k := 12,
  dom :=
   [(0,mI,mA),
    (1,mI,mA),
    (2,mI,mA),
    (3,mI,mA),
    (4,mI,mA),
    (5,mI,mA)],
  out := .tup [.agg [iE 354,iE 355,iE 356,iE 357,bE 358,bE 359,bE 360],.one (.mix (.e 43) (.nilI) (.mix (.e 37) (.nilI) (.ifc 116 (iC 3))))],
  ivs := [(354,0,3),(355,mI,mA),(356,mI,mA),(357,mI,mA),(43,0,1),(37,0,1)],tabs := [] }
noncomputable def tb24 : List (FuncId × Ctr) := (140,(l140.sum (mkCx tb23) 20 400 140 3).ctr) :: tb23
def l144 : Lit :=
 {
  args :=
   [SV.a (SA.agg [iE 0,iE 1]),
    SV.a
     (SA.agg
      [iE 2,iE 3,iE 4,
       iE 5,bE 6,bE 7,bE 8])],
  k := 9,
  dom :=
   [(0,mI,mA),
    (1,mI,mA),
    (2,mI,mA),
    (3,mI,mA),
    (4,mI,mA),
    (5,mI,mA)],
  out := .tup [.one (iE 66),.one (.mix (.e 40) (.nilI) (.mix (.e 34) (.nilI) (.ifc 116 (iC 3))))],
  ivs := [(66,0,65535),(40,0,1),(34,0,1)],tabs := [] }
noncomputable def tb25 : List (FuncId × Ctr) := (144,(l144.sum (mkCx tb24) 20 400 144 3).ctr) :: tb24
def l197 : Lit :=
 {args := [SV.a (SA.one (iE 0))],k := 1,
  dom := [(0,mI,mA)],
  out := .a (.one (iE 1)),
  ivs := [(1,0,4294967295)],tabs := [] }
noncomputable def tb26 : List (FuncId × Ctr) := (197,(l197.sum (mkCx tb25) 20 400 197 3).ctr) :: tb25
def l198 : Lit :=
 {args := [SV.a (SA.one (iE 0)),SV.a (SA.one (iE 1))],
  k := 2,
  dom :=
   [(0,mI,mA),
    (1,mI,mA)],
  out := .a (.one (iE 14)),
  ivs := [(14,-2147483648,2147483647)],tabs := [] }
noncomputable def tb27 : List (FuncId × Ctr) := (198,(l198.sum (mkCx tb26) 20 400 198 3).ctr) :: tb26
def l196 : Lit :=
 {args := [SV.a (SA.one (iE 0))],k := 1,
  dom := [(0,mI,mA)],
  out := .a (.agg [iE 4,.bool (.c (1))]),
  ivs := [(4,0,4294967295)],tabs := [] }
noncomputable def tb28 : List (FuncId × Ctr) := (196,(l196.sum (mkCx tb27) 20 400 196 3).ctr) :: tb27
def l138 : Lit :=
 {
  args :=
   [SV.a (SA.one (iE 0)),
    SV.a (SA.agg [iE 1,bE 2]),
    SV.a (SA.agg [iE 3,iE 4])],
  k := 5,
  dom :=
   [(0,mI,mA),
    (1,mI,mA),
    (3,mI,mA),
    (4,mI,mA)],
  out := .tup [.agg [iE 69,bE 70],.one (.mix (.e 12) (.nilI) (.ifc 116 (iC 3)))],
  ivs := [(69,0,4294967295),(70,0,1),(12,0,1)],tabs := [] }
noncomputable def tb29 : List (FuncId × Ctr) := (138,(l138.sum (mkCx tb28) 20 400 138 3).ctr) :: tb28
def l250 : Lit :=
 {args := [SV.a (SA.one (iE 0))],k := 1,
  dom := [(0,mI,mA)],
  out := .a (.one (iE 1)),
  ivs := [(1,0,4294967295)],tabs := [] }
noncomputable def tb30 : List (FuncId × Ctr) := (250,(l250.sum (mkCx tb29) 20 400 250 3).ctr) :: tb29
def l252 : Lit :=
 {
  args :=
   [SV.a (SA.one (iE 0)),SV.a (SA.one (iE 1)),
    SV.a (SA.one (iE 2))],
  k := 3,
  dom :=
   [(0,mI,mA),
    (1,mI,mA),
    (2,mI,mA)],
  out := .a (.one (iE 4)),
  ivs := [(4,mI,mA)],tabs := [] }
noncomputable def tb31 : List (FuncId × Ctr) := (252,(l252.sum (mkCx tb30) 20 400 252 3).ctr) :: tb30
def l248 : Lit :=
 {
  args :=
   [SV.a (SA.agg [iE 0,iE 1]),
    SV.a (SA.one (iE 2))],
  k := 3,
  dom :=
   [(0,mI,mA),
    (1,mI,mA),
    (2,mI,mA)],
  out := .a (.agg [iE 10,iE 18]),
  ivs := [(10,mI,mA),(18,mI,mA)],tabs := [] }
noncomputable def tb32 : List (FuncId × Ctr) := (248,(l248.sum (mkCx tb31) 20 400 248 3).ctr) :: tb31
def l261 : Lit :=
 {
  args :=
   [SV.a
     (SA.agg
      sq76),
    SV.a
     (SA.agg
      [iE 10,iE 11,
       iE 12])],
  k := 13,
  dom :=
   (sq28 ++ [(9,mI,mA),(10,mI,mA),(11,mI,mA),(12,mI,mA)]),
  out := .a (.one (bE 282)),
  ivs := [(282,0,1)],tabs := [] }
noncomputable def tb33 : List (FuncId × Ctr) := (261,(l261.sum (mkCx tb32) 20 400 261 3).ctr) :: tb32
def l262 : Lit :=
 {args := [SV.a (SA.one (iE 0)),SV.a (SA.one (iE 1))],
  k := 2,
  dom :=
   [(0,mI,mA),
    (1,mI,mA)],
  out := .a (.one (iE 6)),
  ivs := [(6,mI,mA)],tabs := [] }
noncomputable def tb34 : List (FuncId × Ctr) := (262,(l262.sum (mkCx tb33) 20 400 262 3).ctr) :: tb33
def l217 : Lit :=
 {
  args :=
   [SV.a
     (SA.agg
      sq76),
    SV.a
     (SA.agg
      [iE 10,iE 11,iE 12,
       iE 13,iE 14,
       iE 15,iE 16])],
  k := 17,
  dom :=
   (sq28 ++ [(9,mI,mA),(10,mI,mA),(11,mI,mA),(12,mI,mA),(13,mI,mA),(14,mI,mA),(15,mI,mA),(16,mI,mA)]),
  out := .tup [.agg [bE 269,bE 270,bE 271,bE 272],.one (.mix (.e 207) (.nilI) (.mix (.e 202) (.nilI) (.ifc 116 (iC 3))))],
  ivs := [(269,0,1),(270,0,1),(271,0,1),(272,0,1),(207,0,1),(202,0,1)],tabs := [] }
noncomputable def tb35 : List (FuncId × Ctr) := (217,(l217.sum (mkCx tb34) 20 400 217 3).ctr) :: tb34
def l157 : Lit :=
 {args := [SV.a (SA.one (iE 0)),SV.a (SA.one (iE 1))],
  k := 2,
  dom :=
   [(0,mI,mA),
    (1,mI,mA)],
  out := .a (.one (iE 8)),
  ivs := [(8,-1099511627776,1099511627776)],tabs := [] }
noncomputable def tb36 : List (FuncId × Ctr) := (157,(l157.sum (mkCx tb35) 20 400 157 3).ctr) :: tb35
def l158 : Lit :=
 {
  args :=
   [SV.a
     (SA.agg
      [iE 0,iE 1,iE 2,
       iE 3,iE 4]),
    SV.a (SA.one (iE 5)),SV.a (SA.one (iE 6))],
  k := 7,
  dom :=
   [(0,mI,mA),
    (1,mI,mA),
    (2,mI,mA),
    (3,mI,mA),
    (4,mI,mA),
    (5,mI,mA),
    (6,mI,mA)],
  out := .tup [.one (iE 249),.one (.mix (.e 215) (.nilI) (.mix (.e 156) (.mix (.e 184) (.nilI) (.ifc 116 (iC 26))) (.ifc 116 (iC 3))))],
  ivs := [(249,0,2),(215,0,1),(156,0,1),(184,0,1)],tabs := [] }
noncomputable def tb37 : List (FuncId × Ctr) := (158,(l158.sum (mkCx tb36) 20 400 158 3).ctr) :: tb36
def l220 : Lit :=
 {
  args :=
   [SV.a
     (SA.agg
      [iE 0,iE 1,iE 2,
       iE 3,iE 4]),
    SV.a
     (SA.agg
      [iE 5,iE 6,iE 7,
       iE 8])],
  k := 9,
  dom :=
   sq28,
  out := .a (.one (iE 23)),
  ivs := [(23,-1099511627776,1099511627776)],tabs := [] }
noncomputable def tb38 : List (FuncId × Ctr) := (220,(l220.sum (mkCx tb37) 20 400 220 3).ctr) :: tb37
def l156 : Lit :=
 {
  args :=
   [SV.a
     (SA.agg
      [iE 0,iE 1,iE 2,
       iE 3,iE 4]),
    SV.a
     (SA.agg
      [iE 5,iE 6,iE 7,
       iE 8])],
  k := 9,
  dom :=
   sq28,
  out := .tup [.one (iE 238),.one (.mix (.e 217) (.nilI) (.mix (.e 158) (.mix (.e 186) (.nilI) (.ifc 116 (iC 26))) (.ifc 116 (iC 3))))],
  ivs := [(238,-1099511627776,1099511627776),(217,0,1),(158,0,1),(186,0,1)],tabs := [] }
noncomputable def tb39 : List (FuncId × Ctr) := (156,(l156.sum (mkCx tb38) 20 400 156 3).ctr) :: tb38
def l230 : Lit :=
 {args := [SV.a (SA.one (iE 0))],k := 1,
  dom := [(0,mI,mA)],
  out := .a (.one (iE 2)),
  ivs := [(2,-1073741824,1073741824)],tabs := [] }
noncomputable def tb40 : List (FuncId × Ctr) := (230,(l230.sum (mkCx tb39) 20 400 230 3).ctr) :: tb39
def l229 : Lit :=
 {
  args :=
   [SV.a
     (SA.agg
      [iE 0,iE 1,iE 2,
       iE 3,iE 4,iE 5]),
    SV.a
     (SA.agg
      [iE 6,iE 7,iE 8,
       iE 9,iE 10])],
  k := 11,
  dom :=
   (sq28 ++ [(9,mI,mA),(10,mI,mA)]),
  out := .a (.one (iE 26)),
  ivs := [(26,-1073741824,1073741824)],tabs := [] }
noncomputable def tb41 : List (FuncId × Ctr) := (229,(l229.sum (mkCx tb40) 20 400 229 3).ctr) :: tb40
def l232 : Lit :=
 {
  args :=
   [SV.a (SA.one (iE 0)),SV.a (SA.one (iE 1)),
    SV.a (SA.one (iE 2))],
  k := 3,
  dom :=
   [(0,mI,mA),
    (1,mI,mA),
    (2,mI,mA)],
  out := .a (.one (iE 4)),
  ivs := [(4,mI,mA)],tabs := [] }
noncomputable def tb42 : List (FuncId × Ctr) := (232,(l232.sum (mkCx tb41) 20 400 232 3).ctr) :: tb41
def l24 : Lit :=
 {args := [SV.a (SA.one (iE 0))],k := 1,
  dom := [(0,mI,mA)],
  out := .tup [.one (iE 26),.one (.mix (.e 21) (.nilI) (.mix (.e 15) (.nilI) (.ifc 116 (iC 3))))],
  ivs := [(26,-140737488355330,140737488355325),(21,0,1),(15,0,1)],tabs := [] }
noncomputable def tb43 : List (FuncId × Ctr) := (24,(l24.sum (mkCx tb42) 20 400 24 3).ctr) :: tb42
def l154 : Lit :=
 {
  args :=
   [SV.a
     (SA.agg
      sq76),
    SV.a
     (SA.agg
      [iE 10,iE 11,iE 12,
       iE 13,bE 14,bE 15,bE 16,
       bE 17]),
    SV.a
     (SA.agg
      [iE 18,iE 19,iE 20,
       iE 21,iE 22,
       iE 23,iE 24])],
  k := 25,
  dom :=
   (sq28 ++ [(9,mI,mA),(10,mI,mA),(11,mI,mA),(12,mI,mA),(13,mI,mA),(18,mI,mA),(19,mI,mA),(20,mI,mA),(21,mI,mA),(22,mI,mA),(23,mI,mA),(24,mI,mA)]),
  out := .tup [.agg [iE 250,iE 251,iE 252,iE 253,bE 254,bE 255,bE 256,bE 257],.one (.mix (.e 70) (.nilI) (.mix (.e 63) (.nilI) (.mix (.e 64) (.nilI) (.ifc 116 (iC 3)))))],
  ivs := [(250,mI,mA),(251,mI,mA),(252,mI,mA),(253,mI,mA),(70,0,1),(63,0,1),(64,0,1)],tabs := [] }
noncomputable def tb44 : List (FuncId × Ctr) := (154,(l154.sum (mkCx tb43) 20 400 154 3).ctr) :: tb43
def l207 : Lit :=
 {
  args :=
   [SV.a
     (SA.agg
      [iE 0,iE 1,iE 2,
       iE 3,iE 4]),
    SV.a
     (SA.agg
      [iE 5,iE 6,iE 7,
       iE 8]),
    SV.a (SA.one (iE 9))],
  k := 10,
  dom :=
   (sq28 ++ [(9,mI,mA)]),
  out := .a (.agg [iE 31,iE 32,iE 38,iE 26]),
  ivs := [(31,mI,mA),(32,mI,mA),(38,0,4294967295),(26,mI,mA)],tabs := [] }
noncomputable def tb45 : List (FuncId × Ctr) := (207,(l207.sum (mkCx tb44) 20 400 207 3).ctr) :: tb44
def l206 : Lit :=
 {
  args :=
   [SV.a
     (SA.agg
      [iE 0,iE 1,iE 2,
       iE 3,iE 4]),
    SV.a (SA.agg [iE 5,iE 6]),
    SV.a (SA.agg [iE 7,iE 8])],
  k := 9,
  dom :=
   sq28,
  out := .a (.agg [iE 23,iE 26]),
  ivs := [(23,mI,mA),(26,mI,mA)],tabs := [] }
noncomputable def tb46 : List (FuncId × Ctr) := (206,(l206.sum (mkCx tb45) 20 400 206 3).ctr) :: tb45
def l97 : Lit :=
 {
  args :=
   [SV.a
     (SA.agg
      [iE 0,iE 1,iE 2]),
    SV.a
     (SA.agg
      [iE 3,iE 4,iE 5,
       iE 6,bE 7,bE 8,bE 9]),
    SV.a (SA.agg [bE 10,bE 11,bE 12,bE 13])],
  k := 14,
  dom :=
   [(0,Int.ofNat 1,mA),
    (1,mI,mA),
    (2,mI,mA),
    (3,mI,mA),
    (4,mI,mA),
    (5,mI,mA),
    (6,mI,mA)],
  out := .tup [.agg [iE 238,iE 239,iE 240,iE 241,bE 242,bE 243,bE 244],.one (.mix (.e 54) (.nilI) (.mix (.e 48) (.nilI) (.ifc 116 (iC 3))))],
  ivs := [(238,-9223372036854775806,9223372036854775806),(239,mI,mA),(240,mI,mA),(241,mI,mA),(242,0,1),(243,0,1),(244,0,1),(54,0,1),(48,0,1)],tabs := [] }
noncomputable def tb47 : List (FuncId × Ctr) := (97,(l97.sum (mkCx tb46) 20 400 97 3).ctr) :: tb46
noncomputable def tb48 : List (FuncId × Ctr) := (208,atanS.ctr) :: tb47
def l167 : Lit :=
 {
  args :=
   [SV.a
     (SA.agg
      [iE 0,iE 1,iE 2,
       iE 3,iE 4,iE 5]),
    SV.a (SA.agg [iE 6]),
    SV.a
     (SA.agg
      [iE 7,iE 8,iE 9,
       iE 10,iE 11])],
  k := 12,
  dom :=
   [(0,mI,mA),(1,Int.ofNat 0,Int.ofNat 30),
    (2,mI,mA),
    (3,mI,mA),
    (4,mI,mA),
    (5,mI,mA),
    (6,mI,mA),
    (7,mI,mA),
    (8,mI,mA),
    (9,mI,mA),
    (10,mI,mA),
    (11,mI,mA)],
  out := .tup [.agg [iE 360],.one (iE 330),.one (.mix (.e 203) (.mix (.e 256) (.nilI) (.mix (.e 247) (.nilI) (.mix (.e 248) (.nilI) (.ifc 116 (iC 3))))) (.mix (.e 161) (.mix (.e 191) (.nilI) (.ifc 116 (iC 3))) (.mix (.e 129) (.nilI) (.ifc 116 (iC 3)))))],
  ivs := [(360,mI,mA),(330,mI,mA),(203,0,1),(256,0,1),(247,0,1),(248,0,1),(161,0,1),(191,0,1),(129,0,1)],tabs := [] }
noncomputable def tb49 : List (FuncId × Ctr) := (167,(l167.sum (mkCx tb48) 20 400 167 3).ctr) :: tb48
def l205 : Lit :=
 {
  args :=
   [SV.a
     (SA.agg
      [iE 0,iE 1,iE 2,
       iE 3,iE 4]),
    SV.a
     (SA.agg
      [iE 5,iE 6,iE 7,
       iE 8]),
    SV.a (SA.agg [iE 9,iE 10]),
    SV.a (SA.agg [iE 11,iE 12])],
  k := 13,
  dom :=
   [(0,mI,mA),
    (1,mI,mA),(2,Int.ofNat 0,Int.ofNat 30),
    (3,mI,mA),
    (4,mI,mA),
    (5,mI,mA),
    (6,mI,mA),
    (7,mI,mA),
    (8,mI,mA),
    (9,mI,mA),
    (10,mI,mA),
    (11,mI,mA),
    (12,mI,mA)],
  out := .a (.agg [iE 53,iE 54]),
  ivs := [(53,mI,mA),(54,mI,mA)],tabs := [] }
noncomputable def tb50 : List (FuncId × Ctr) := (205,(l205.sum (mkCx tb49) 20 400 205 3).ctr) :: tb49
def l143 : Lit :=
 {
  args :=
   [SV.a
     (SA.agg
      [iE 0,iE 1,iE 2,
       iE 3,iE 4]),
    SV.a
     (SA.agg
      [iE 5,iE 6,iE 7,
       iE 8]),
    SV.a (SA.agg [iE 9,iE 10]),
    SV.a (SA.agg [iE 11,iE 12])],
  k := 13,
  dom :=
   [(0,mI,mA),
    (1,mI,mA),(2,Int.ofNat 0,Int.ofNat 30),
    (3,mI,mA),
    (4,mI,mA),
    (5,mI,mA),
    (6,mI,mA),
    (7,mI,mA),
    (8,mI,mA),
    (9,mI,mA),
    (10,mI,mA),
    (11,mI,mA),
    (12,mI,mA)],
  out := .tup [.agg [iE 132,iE 133,iE 134,iE 135],.one (.mix (.e 53) (.nilI) (.mix (.e 47) (.nilI) (.ifc 116 (iC 3))))],
  ivs := [(132,mI,mA),(133,mI,mA),(134,0,4294967295),(135,mI,mA),(53,0,1),(47,0,1)],tabs := [] }
noncomputable def tb51 : List (FuncId × Ctr) := (143,(l143.sum (mkCx tb50) 20 400 143 3).ctr) :: tb50
def l237 : Lit :=
 {
  args :=
   [SV.a
     (SA.agg
      [iE 0,iE 1,iE 2]),
    SV.a (SA.one (iE 3)),SV.a (SA.one (iE 4))],
  k := 5,
  dom :=
   [(0,mI,mA),
    (1,mI,mA),
    (2,mI,mA),
    (3,mI,mA),
    (4,mI,mA)],
  out := .tup [.agg [iE 223,iE 224,iE 225,iE 226,iE 227,iE 228],.one (.mix (.e 31) (.mix (.e 101) (.nilI) (.ifc 116 (iC 3))) (.mix (.e 25) (.nilI) (.ifc 116 (iC 3))))],
  ivs := [(223,-4611686018427387904,4611686018427387903),(224,mI,mA),(225,-4611686018427387904,4611686018427387903),(226,mI,mA),(227,-4611686018427387904,4611686018427387903),(228,mI,mA),(31,0,1),(101,0,1),(25,0,1)],tabs := [] }
noncomputable def tb52 : List (FuncId × Ctr) := (237,(l237.sum (mkCx tb51) 20 400 237 3).ctr) :: tb51
def l163 : Lit :=
 {
  args :=
   [SV.a (SA.one (iE 0)),
    SV.a
     (SA.agg
      [iE 1,bE 2,bE 3,bE 4,
       bE 5])],
  k := 6,
  dom :=
   [(0,mI,mA),
    (1,mI,mA)],
  out := .tup [.one (iE 390),.one (.mix (.e 12) (.nilI) (.ifc 116 (iC 3)))],
  ivs := [(390,mI,mA),(12,0,1)],tabs := [] }
noncomputable def tb53 : List (FuncId × Ctr) := (163,(l163.sum (mkCx tb52) 20 400 163 3).ctr) :: tb52
def l23 : Lit :=
 {args := [SV.a (SA.one (iE 0))],k := 1,
  dom := [(0,mI,mA)],
  out := .a (.one (bE 9)),
  ivs := [(9,0,1)],tabs := [] }
noncomputable def tb54 : List (FuncId × Ctr) := (23,(l23.sum (mkCx tb53) 20 400 23 3).ctr) :: tb53
def l173 : Lit :=
 {args := [SV.a (SA.one (iE 0)),SV.a (SA.one (bE 1))],k := 2,
  dom := [(0,mI,mA)],
  out := .tup [.one (iE 18),.one (.mix (.e 8) (.nilI) (.ifc 116 (iC 3)))],
  ivs := [(18,0,80),(8,0,1)],tabs := tabs3 }
noncomputable def tb55 : List (FuncId × Ctr) := (173,(l173.sum (mkCx tb54) 20 400 173 3).ctr) :: tb54
def l202 : Lit :=
 {args := [SV.a (SA.one (iE 0))],k := 1,
  dom := [(0,mI,mA)],
  out := .tup [.one (iE 139),.one (.mix (.e 127) (.ifc 116 (iC 2)) (.nilI))],
  ivs := [(139,0,5),(127,0,1)],tabs := tabs3 }
noncomputable def tb56 : List (FuncId × Ctr) := (202,(l202.sum (mkCx tb55) 20 400 202 3).ctr) :: tb55
def l141 : Lit :=
 {
  args :=
   [SV.a
     (SA.agg
      [iE 0,iE 1,iE 2,
       iE 3,iE 4,iE 5,
       bE 6]),
    SV.a (SA.one (iE 7))],
  k := 8,
  dom :=
   [(0,mI,mA),
    (1,mI,mA),
    (2,mI,mA),
    (3,mI,mA),
    (4,mI,mA),
    (5,mI,mA),
    (7,mI,mA)],
  out := .a (.agg [iE 132,iE 133,iE 134,iE 135,iE 136,iE 137,bE 138]),
  ivs := [(132,0,5),(133,-1,1),(134,0,1048576),(135,0,1048576),(136,0,1099511627777),(137,0,1099511627777)],tabs := tabs3 }
noncomputable def tb57 : List (FuncId × Ctr) := (141,(l141.sum (mkCx tb56) 20 400 141 3).ctr) :: tb56
def l146 : Lit :=
 {
  args :=
   [SV.a
     (SA.agg
      [iE 0,iE 1,iE 2,
       iE 3,iE 4,iE 5,
       bE 6])],
  k := 7,
  dom :=
   [(0,mI,mA),
    (1,mI,mA),
    (2,mI,mA),
    (3,mI,mA),
    (4,mI,mA),
    (5,mI,mA)],
  out := .a (.one (iE 64)),
  ivs := [(64,-68718428160,68718493695)],tabs := tabs3 }
noncomputable def tb58 : List (FuncId × Ctr) := (146,(l146.sum (mkCx tb57) 20 400 146 3).ctr) :: tb57
def l150 : Lit :=
 {
  args :=
   [SV.a
     (SA.agg
      [iE 0,iE 1,iE 2]),
    SV.a
     (SA.agg
      [iE 3,iE 4,iE 5,
       iE 6,bE 7,bE 8,bE 9]),
    SV.a (SA.agg [bE 10,bE 11,bE 12,bE 13])],
  k := 14,
  dom :=
   [(0,Int.ofNat 1,mA),
    (1,mI,mA),
    (2,mI,mA),
    (3,mI,mA),
    (4,mI,mA),
    (5,mI,mA),
    (6,mI,mA)],
  out := .tup [.agg [iC 0,iC 0,iE 90,iE 91,.bool (.c (0)),.bool (.c (0)),.bool (.c (0))],.one (.mix (.e 54) (.mix (.e 80) (.nilI) (.ifc 116 (iC 12))) (.mix (.e 48) (.nilI) (.ifc 116 (iC 3))))],
  ivs := [(90,mI,mA),(91,mI,mA),(54,0,1),(80,0,1),(48,0,1)],tabs := [] }
noncomputable def tb59 : List (FuncId × Ctr) := (150,(l150.sum (mkCx tb58) 20 400 150 3).ctr) :: tb58
def l145 : Lit :=
 {
  args :=
   [SV.a
     (SA.agg
      [iE 0,iE 1,iE 2,
       iE 3,iE 4,iE 5,
       iE 6]),
    SV.a
     (SA.agg
      [iE 7,iE 8,iE 9,
       bE 10,bE 11,bE 12,iE 13]),
    SV.a
     (SA.agg
      [iE 14,iE 15,iE 16,
       bE 17,bE 18,bE 19])],
  k := 20,
  dom :=
   [(0,mI,mA),
    (1,mI,mA),
    (2,mI,mA),(3,Int.ofNat 0,Int.ofNat 2),
    (4,Int.ofNat 0,Int.ofNat 2),(5,Int.ofNat 0,Int.ofNat 2),
    (6,mI,mA),
    (7,mI,mA),
    (8,mI,mA),
    (9,mI,mA),
    (13,mI,mA),
    (14,mI,mA),
    (15,mI,mA),
    (16,mI,mA)],
  out := .tup [.agg [iE 1219,iE 1220,iE 1221,bE 1222,bE 1223,bE 1224,iE 1225],.agg [iE 1215,iE 1216,bE 1217,bE 1218],.one (.mix (.e 299) (.nilI) (.mix (.e 275) (.mix (.e 255) (.nilI) (.mix (.e 243) (.ifc 116 (iC 3)) (.ifc 116 (iC 6)))) (.ifc 116 (iC 3))))],
  ivs := [(1219,mI,mA),(1220,mI,mA),(1221,mI,mA),(1222,0,1),(1223,0,1),(1224,0,1),(1225,mI,mA),(1215,-1,2),(1216,0,65535),(1217,0,1),(1218,0,1),(299,0,1),(275,0,1),(255,0,1),(243,0,1)],tabs := [] }
noncomputable def tb60 : List (FuncId × Ctr) := (145,(l145.sum (mkCx tb59) 20 400 145 3).ctr) :: tb59
section
variable {O : Objs} {ρ : Map} {E : Nat → Int} {w : World} {m : List SB}
theorem sats_ints : ∀ {rs : List Ref} {vs : List Value},sats ρ E (rs.map fun r=>Leaf.int .i64 r) vs → ∀ (k : Nat) (r : Ref),rs[k]? = some r → vs[k]? = some (.int .i64 (r.val E))
 | [],_,_,k,r,hr=>by simp at hr
 | q :: rs,v :: vs,hs,0,r,hr=>by
  simp only [List.getElem?_cons_zero,Option.some.injEq] at hr
  subst hr
  simp only [List.getElem?_cons_zero,Option.some.injEq]
  exact hs.1
 | q :: rs,v :: vs,hs,k + 1,r,hr=>by
  simp only [List.getElem?_cons_succ] at hr ⊢
  exact sats_ints hs.2 k r hr
 | _ :: _,[],hs,_,_,_=>hs.elim
theorem sla_row {i n : Nat} {rs : List Ref} {v : Value} (hM : M O ρ E m w) (hb : (⟨i,[],rs.map fun r=>Leaf.int .i64 r,none⟩ : SB) ∈ m) (hv : (Leaf.sla i 0 n).sat ρ E v) (_ : n = rs.length) :
  ∃ ad c,v = .slice (some ad) n c ∧ n ≤ c ∧ Sl w w.heap.size 1 (some ad) (rows (rs.map (Ref.val E))) := by
 obtain ⟨L,c,hL,hc,rfl⟩ := hv
 obtain ⟨L',vs,hL',hs,ho,hl,t,hh,_⟩ := hM.blk _ hb rfl
 rw [hL] at hL'
 obtain rfl : L = L' := by injection hL'
 refine ⟨⟨L.n,0,none⟩,c,rfl,hc,fun r hr=>?_,fun h0=>⟨⟨L.n,0,none⟩,rfl,hM.low _ hb rfl L hL _ ((ho _).2 rfl),fun k r hr j u hu=>?_⟩⟩
 ·simp only [rows,List.mem_map] at hr
  obtain ⟨x,_,rfl⟩ := hr
  rfl
 ·simp only [rows,List.map_map,List.getElem?_map] at hr
  cases hk : rs[k]? with
  | none=>rw [hk] at hr; cases hr
  | some q =>
   rw [hk] at hr
   simp only [Option.map_some,Option.some.injEq,Function.comp] at hr
   subst hr
   cases j with
   | succ j=>simp at hu
   | zero =>
    simp only [List.getElem?_cons_zero,Option.some.injEq] at hu
    subst hu
    have h1 := sats_ints hs k q hk
    have hB : Go.Proofs.YtbegodiligmphaaGreatDoor.Blk w L.n t vs.toArray := hh
    have := hB.cell k
    rw [show (⟨L.n,0,none⟩ : Addr).add (k * 1 + 0) = ⟨L.n,k,none⟩ by simp [Addr.add]; exact fun h=>h.symm]
    rw [this]
    simpa using h1
end
def searchC : Ctr where
 run args m _ g := match args with
 | [.a (.one (.sla id 0 2)),.a (.one (.int .i64 x))]=>match getB m id with
  | some b=>match b.cells with
   | [.int .i64 (.c p),.int .i64 (.c q)] =>
    if p ≤ q then
     let (l1,g) := g.bin .lss .i64 (.c q) x
     let (l0,g) := g.bin .lss .i64 (.c p) x
     let (r0,g) := g.ite l0 (.c 1) (.c 0)
     let (r,g) := g.ite l1 (.c 2) r0
     some (.a (.one (.int .i64 r)),m,g)
    else none
   | _=>none
  | none=>none
 | _=>none
theorem searchC_ok {C : Cx} {O : Objs} (hP : C.P = Tryz.prog) : ∀ I X E,CtrOk C O I X E 299 searchC := fun I X E args m pc g v m' g' h=>by
 have hbody : ∃ fn b,C.P.funcs[299]? = some fn ∧ fn.body = some b := ⟨_,_,by rw [hP]; exact Tryz.func299,rfl⟩
 simp only [searchC] at h
 split at h
 ·rename_i id x
  split at h
  ·rename_i b hb
   split at h
   ·rename_i p q hcells
    split at h
    ·rename_i hpq
     rcases h1 : g.bin .lss .i64 (.c q) x with ⟨l1,g1⟩
     rcases h2 : g1.bin .lss .i64 (.c p) x with ⟨l0,g2⟩
     rcases h3 : g2.ite l0 (.c 1) (.c 0) with ⟨r0,g3⟩
     rcases h4 : g3.ite l1 (.c 2) r0 with ⟨r,g4⟩
     simp only [h1,h2,h3,h4] at h
     injection h with h; injection h with e1 e; injection e with e2 e3; subst e1; subst e2; subst e3
     have hg : Good I X E g4 → Good I X E g3 ∧ Good I X E g2 ∧ Good I X E g1 ∧ Good I X E g := fun H=>by
      have H3 := (ite_ok h4 H).1
      have H2 := (ite_ok h3 H3).1
      have H1 := (bin_ok h2 H2).1
      exact ⟨H3,H2,H1,(bin_ok h1 H1).1⟩
     refine ⟨hbody,fun _=>St.of_good fun H=>(hg H).2.2.2,fun H ρ vs w hs hG hM hW hp hf=>?_⟩
     obtain ⟨H3,H2,H1,_⟩ := hg H
     match vs,hs with
     | [v0,v1],⟨a0,a1,_⟩ =>
      obtain ⟨b1,b2,b3,b4⟩ := getB_ok hb
      have hmem : (⟨id,[],[Ref.c p,Ref.c q].map fun r=>Leaf.int .i64 r,none⟩ : SB) ∈ m.bs := by
       have : b = ⟨id,[],[Ref.c p,Ref.c q].map fun r=>Leaf.int .i64 r,none⟩ := by
        obtain ⟨i,c,ce,o⟩ := b
        simp only at b2 b3 b4 hcells
        subst b2; subst b3; subst b4; subst hcells
        rfl
       rw [← this]; exact b1
      obtain ⟨ad,c,rfl,hc,hsl⟩ := sla_row hM hmem a0 rfl
      have ev : v1 = .int .i64 (x.val E) := a1
      rw [hP,ev]
      refine Calls.mono (search_walk [p,q] ad 2 c (x.val E) w hsl rfl (by decide) (fun i j hij hj=>?_)) fun e w' he=>?_
      ·have hj2 : j < 2 := hj
       rcases Nat.lt_or_ge i 1 with hi | hi
       ·obtain rfl : i = 0 := by omega
        rcases Nat.lt_or_ge j 1 with hj' | hj'
        ·obtain rfl : j = 0 := by omega
         exact Int.le_refl _
        ·obtain rfl : j = 1 := by omega
         exact hpq
       ·obtain rfl : i = 1 := by omega
        obtain rfl : j = 1 := by omega
        exact Int.le_refl _
      ·obtain ⟨k,rfl,hk,hlo,hhi,hq⟩ := he
       refine ⟨ρ,_,rfl,?_,hM.quiet hq,Ext.quiet hq⟩
       show Value.int .i64 (k : Int) = .int .i64 (r.val E)
       rw [(ite_ok h4 H).2,(ite_ok h3 H3).2,(bin_ok h1 H1).2,(bin_ok h2 H2).2]
       simp only [intSem,truth_ofB,decide_eq_true_eq]
       have hf : (k : Int) = if q < x.val E then 2 else if p < x.val E then 1 else 0 := by
        match k,hk with
        | 0,_ =>
         have h0 := hhi 0 (by decide) (by decide)
         have h0' := hhi 1 (by decide) (by decide)
         simp only [Go.Proofs.YtbegodiligmphaaGreatDoor.g,List.getD_cons_zero,List.getD_cons_succ] at h0 h0'
         rw [if_neg (by omega),if_neg (by omega)]; rfl
        | 1,_ =>
         have h0 := hlo 0 (by decide)
         have h0' := hhi 1 (by decide) (by decide)
         simp only [Go.Proofs.YtbegodiligmphaaGreatDoor.g,List.getD_cons_zero,List.getD_cons_succ] at h0 h0'
         rw [if_neg (by omega),if_pos (by omega)]; rfl
        | 2,_ =>
         have h0' := hlo 1 (by decide)
         simp only [Go.Proofs.YtbegodiligmphaaGreatDoor.g,List.getD_cons_zero,List.getD_cons_succ] at h0'
         rw [if_pos (by omega)]; rfl
       rw [hf]
       rfl
    ·cases h
   ·cases h
  ·cases h
 ·cases h
def closedR (k : Nat) (d : Bd) : Bool := d.en.all (fun x=>x.2.same (.e x.1) && Nat.blt x.1 k) && d.bl.all (fun x=>Nat.beq x.1 x.2) && d.op.isEmpty
def closedM (k : Nat) (m : List SB) : Bool := match again m (selfR m) m with
 | some d=>closedR k d
 | none=>false
def closedV (k : Nat) (xs : List SV) : Bool := match mtVs obN xs xs with
 | some d=>closedR k d
 | none=>false
section
variable {O : Objs} {ρ : Map} {E E' : Nat → Int} {w : World} {k : Nat}
theorem closedR_ok {d : Bd} (h : closedR k d = true) : (∀ x ∈ d.en,x.2 = .e x.1 ∧ x.1 < k) ∧ (∀ x ∈ d.bl,x.1 = x.2) ∧ d.op = [] := by
 unfold closedR at h
 rw [Bool.and_eq_true,Bool.and_eq_true,List.isEmpty_iff] at h
 refine ⟨fun x hx=>?_,fun x hx=>?_,h.2⟩
 ·have := List.all_eq_true.1 h.1.1 x hx
  rw [Bool.and_eq_true,Nat.blt_eq] at this
  exact ⟨Ref.same_ok this.1,this.2⟩
 ·exact Nat.eq_of_beq_eq_true (List.all_eq_true.1 h.1.2 x hx)
theorem M.closed {m : List SB} (h : closedM k m = true) (hM : M O ρ E m w) (hE : ∀ j,j < k → E' j = E j) : M O ρ E' m w := by
 unfold closedM at h
 split at h
 rotate_left
 ·cases h
 rename_i d hd
 obtain ⟨h1,h2,_⟩ := closedR_ok h
 obtain ⟨k1,_,k3,_,_,k6⟩ := again_ok (Ef := E') hd hM (fun x hx=>by
  obtain ⟨e,hlt⟩ := h1 x hx
  rw [e,hE _ hlt]; rfl)
 refine k1.mono (fun i B hB=>⟨B,?_,rfl,rfl,rfl⟩) fun b hb=>?_
 ·unfold bindMap at hB
  cases hl : lkp d.bl i with
  | none=>rw [hl] at hB; cases hB
  | some j =>
   rw [hl] at hB
   have := h2 _ (lkp_mem hl)
   simp only at this
   rw [this]
   exact hB
 ·obtain ⟨a,_,a2,_⟩ := k6 b hb
  rw [k3 _ a2]
  exact congrArg ρ (h2 _ a2)
theorem satVs_closed {xs : List SV} (h : closedV k xs = true) {vs : List Value} (hv : satVs ρ E xs vs) (hE : ∀ j,j < k → E' j = E j) : satVs ρ E' xs vs := by
 unfold closedV at h
 split at h
 rotate_left
 ·cases h
 rename_i d hd
 obtain ⟨h1,h2,h3⟩ := closedR_ok h
 obtain ⟨ov,o1,o2,o3⟩ := mtVs_ok hd hv
 have hov : ov = [] := by
  unfold Ov.of at o1
  rw [h3] at o1
  simpa using o1
 subst hov
 exact o3 ρ E' ⟨fun x hx=>congrArg ρ (h2 x hx),fun x hx=>(by cases hx),fun x hx=>by
  obtain ⟨e,hlt⟩ := h1 x hx
  rw [e,hE _ hlt]; rfl⟩
def numsIn (pat : List SB) (n : Nat) (root : Bd) (bs : List SB) : Option (List Ref) := match again pat root bs with
 | some d=>if entsOk d.en (entsOf d.en n) then some (entsOf d.en n) else none
 | none=>none
end
theorem MLit.Holds.nums {O : Objs} {C : Cx} {L : MLit} {d fuel : Nat} {f : FuncId} (H : L.Holds C O d fuel f) (ha : closedV L.k L.args = true) (hm : closedM L.k L.mem = true) (hs : L.sup = []) {xs : List Int} (hd : InDom L.dom (ofL xs)) {ρ : Map} {vs : List Value} {w : World}
  (hv : satVs ρ (ofL xs) L.args vs) (hG : GlobOk C ρ) (hM : M O ρ (ofL xs) L.mem w) (hF : Fresh ρ L.nt L.nt') :
  Calls C.P f vs.toArray w fun e w'=>∃ ρ' u,e = .returned u ∧ L.out.sat ρ' (L.ent C d fuel f xs) u ∧ M O ρ' (L.ent C d fuel f xs) L.after w' ∧ Ext ρ ρ' ⟨L.mem,L.nt⟩ ⟨L.after,L.nt'⟩ w w' := by
 have hE : ∀ j,j < L.k → L.ent C d fuel f xs j = ofL xs j := fun j hj=>H.inp xs hd j hj
 exact H.run xs hd (by rw [hs]; rfl) ρ vs w (satVs_closed ha hv hE) hG (M.closed hm hM hE) hF
def tabN (i : Nat) : List Int := match i with
 | 0=>[0,10923,21846,32768,43691,54614,65536]
 | 1=>[0,64,33,35,39,7,15,8]
 | _=>[5,4,6,2,3,1]
def numV (l : List Int) : List Value := l.map fun n=>.int .i64 n
def numL (l : List Int) : List Leaf := l.map fun n=>.int .i64 (.c n)
def tabB (i : Nat) : SB := ⟨i,[],numL (tabN i),none⟩
theorem tabs3_is : tabs3 = [tabB 2,tabB 1,tabB 0] := rfl
theorem tabB_mem {i : Nat} (h : i < 3) : tabB i ∈ tabs3 := by
 rw [tabs3_is]
 match i,h with
 | 0,_=>simp
 | 1,_=>simp
 | 2,_=>simp
theorem tab_of {b : SB} (h : b ∈ tabs3) : ∃ i,i < 3 ∧ b = tabB i := by
 rw [tabs3_is] at h
 simp only [List.mem_cons,List.not_mem_nil,or_false] at h
 rcases h with h | h | h
 ·exact ⟨2,by decide,h⟩
 ·exact ⟨1,by decide,h⟩
 ·exact ⟨0,by decide,h⟩
theorem num_sats {ρ : Map} {E : Nat → Int} : ∀ l : List Int,sats ρ E (numL l) (numV l)
 | []=>trivial
 | _ :: l=>⟨rfl,num_sats l⟩
theorem sats_num {ρ : Map} {E : Nat → Int} : ∀ {l : List Int} {vs : List Value},sats ρ E (numL l) vs → vs.length = l.length → vs = numV l
 | [],[],_,_=>rfl
 | [],_ :: _,_,h=>by simp at h
 | _ :: _,[],h,_=>h.elim
 | n :: l,v :: vs,⟨h,h'⟩,hl=>by
  have := sats_num h' (by simpa using hl)
  rw [this,show v = .int .i64 n from h]
  rfl
structure Tabs (T : Nat → TypeId) (w : World) : Prop where
 at_ : ∀ i,i < 3 → w.heap[i]? = some (.cells (numV (tabN i)).toArray (T i) (0,0))
 size : 3 ≤ w.heap.size
def tabMap (T : Nat → TypeId) : Map := fun i=>if i < 3 then some ⟨i,(tabN i).length,fun x=>x = i,tyV (T i)⟩ else none
section
variable {O O' : Objs} {ρ ρ' : Map} {E E' : Nat → Int} {w w' : World} {T : Nat → TypeId} {m m' : List SB} {l : List (FuncId × Ctr)}
theorem tyV_inj {t t' : TypeId} (h : tyV t = tyV t') : t = t' := by
 simp only [tyV,Value.int.injEq,true_and] at h
 exact Int.ofNat.inj h
theorem Tabs.mem (h : Tabs T w) (hρ : ∀ i,i < 3 → ρ i = tabMap T i) : M O ρ E tabs3 w := by
 have at_ : ∀ i,i < 3 → ρ i = some ⟨i,(tabN i).length,fun x=>x = i,tyV (T i)⟩ := fun i hi=>by rw [hρ i hi,tabMap,if_pos hi]
 refine ⟨fun b hb _=>?_,fun b hb b' hb' _ _ hne L L' hL hL' x hx hx'=>?_,fun b hb _ L hL x hx=>?_⟩
 ·obtain ⟨i,hi,rfl⟩ := tab_of hb
  exact ⟨_,numV (tabN i),at_ i hi,num_sats _,fun _=>Iff.rfl,by simp [numV],T i,h.at_ i hi,rfl⟩
 ·obtain ⟨i,hi,rfl⟩ := tab_of hb
  obtain ⟨j,hj,rfl⟩ := tab_of hb'
  have e := at_ i hi
  have e' := at_ j hj
  rw [show (tabB i).id = i from rfl,e] at hL
  rw [show (tabB j).id = j from rfl,e'] at hL'
  injection hL with hL; injection hL' with hL'
  subst hL; subst hL'
  exact hne (hx.symm.trans hx')
 ·obtain ⟨i,hi,rfl⟩ := tab_of hb
  rw [show (tabB i).id = i from rfl,at_ i hi] at hL
  injection hL with hL
  subst hL
  have := h.size
  simp only at hx
  omega
theorem tabMap_glob (hρ : ∀ i,i < 3 → ρ i = tabMap T i) : GlobOk (mkCx l) ρ := fun gl id h=>by
 have hlt : id < 3 := mkCx_glob l gl id h
 simp only [mkCx] at h
 split at h
 ·injection h with h
  subst h
  exact ⟨_,by rw [hρ _ hlt,tabMap,if_pos hlt],rfl⟩
 ·cases h
theorem Tabs.next (hT : Tabs T w) (hM : M O ρ E m w) (hM' : M O' ρ' E' m' w') (hG : GlobOk (mkCx l) ρ) (hle : Lk ρ ρ') (h1 : ∀ b ∈ tabs3,b ∈ m) (h2 : ∀ b ∈ tabs3,b ∈ m') : Tabs T w' := by
 have key : ∀ i,i < 3 → w'.heap[i]? = some (.cells (numV (tabN i)).toArray (T i) (0,0)) := fun i hi=>by
  obtain ⟨L,hL,hn⟩ := hG i i (by simp [mkCx,hi])
  obtain ⟨L1,vs,e1,e2,_,e4,t,e5,e6⟩ := hM.blk (tabB i) (h1 _ (tabB_mem hi)) rfl
  rw [show (tabB i).id = i from rfl,hL] at e1
  injection e1 with e1
  subst e1
  rw [hn,hT.at_ i hi] at e5
  injection e5 with e5
  injection e5 with e5 et
  obtain ⟨L',hL',k1,k2,k3⟩ := hle i L hL
  obtain ⟨L2,us,f1,f2,_,f4,t',f5,f6⟩ := hM'.blk (tabB i) (h2 _ (tabB_mem hi)) rfl
  rw [show (tabB i).id = i from rfl,hL'] at f1
  injection f1 with f1
  subst f1
  have hvs : vs.length = (tabN i).length := by
   have := congrArg Array.size e5
   simpa [numV] using this.symm
  have hus := sats_num (l := tabN i) f2 (by rw [f4,k2,← e4,hvs])
  have ht : t' = T i := by
   have : tyV t' = tyV t := by rw [← f6,k3,e6]
   rw [tyV_inj this,et]
  rw [k1,hn,hus,ht] at f5
  exact f5
 refine ⟨key,?_⟩
 obtain ⟨h,_⟩ := Array.getElem?_eq_some_iff.1 (key 2 (by decide))
 omega
theorem MLit.Holds.tabs {L : MLit} {d fuel : Nat} {f : FuncId} (H : L.Holds (mkCx l) O d fuel f) (hm : L.mem = tabs3) (hn : L.nt = 3) (ha : tabs3.all (fun b=>decide (b ∈ L.after)) = true) (hs : L.sup = []) {xs : List Int} (hd : InDom L.dom (ofL xs))
  (hT : Tabs T w) {vs : List Value} (hρ : ∀ i,i < 3 → ρ i = tabMap T i) (hf : Fresh ρ 3 L.nt') (hv : satVs ρ (L.ent (mkCx l) d fuel f xs) L.args vs) :
  Calls Tryz.prog f vs.toArray w fun e w'=>∃ ρ' u,e = .returned u ∧ L.out.sat ρ' (L.ent (mkCx l) d fuel f xs) u ∧ M O ρ' (L.ent (mkCx l) d fuel f xs) L.after w' ∧ Quiet w w' ∧ Tabs T w' ∧ Lk ρ ρ' ∧
   ∀ b ∈ L.after,3 ≤ b.id → allC (L.ent (mkCx l) d fuel f xs) b.cs = true → ∀ G,ρ' b.id = some G → ∀ x,G.own x → w.heap.size ≤ x := by
 have hM : M O ρ (L.ent (mkCx l) d fuel f xs) L.mem w := by rw [hm]; exact hT.mem hρ
 have hG : GlobOk (mkCx l) ρ := tabMap_glob hρ
 have h2 : ∀ b ∈ tabs3,b ∈ L.after := fun b hb=>by simpa using List.all_eq_true.1 ha b hb
 refine Calls.mono (H.run xs hd (by rw [hs]; rfl) ρ vs w hv hG hM (by rw [hn]; exact hf)) fun e w' he=>?_
 obtain ⟨ρ',u,e1,k1,k2,k3⟩ := he
 have hT' : Tabs T w' := hT.next hM k2 hG k3.le (fun b hb=>by rw [hm]; exact hb) h2
 have tabOwn : ∀ b ∈ L.mem,∀ L0,ρ b.id = some L0 → ∀ x,L0.own x → x < 3 ∧ x = b.id := fun b hb L0 hL0 x hx=>by
  rw [hm] at hb
  obtain ⟨i,hi,rfl⟩ := tab_of hb
  rw [show (tabB i).id = i from rfl,hρ i hi,tabMap,if_pos hi] at hL0
  injection hL0 with hL0
  subst hL0
  simp only at hx
  exact ⟨by omega,hx⟩
 refine ⟨ρ',u,e1,k1,k2,⟨k3.io.os,k3.io.tape,k3.io.output,k3.size,fun k hk=>?_⟩,hT',k3.le,fun b hb hb3 hc G hG' x hx=>?_⟩
 ·by_cases h3 : k < 3
  ·rw [hT.at_ k h3,hT'.at_ k h3]
  ·exact k3.keep k hk fun b hb L0 hL0 hx=>h3 (tabOwn b hb L0 hL0 k hx).1
 ·have hid : ρ b.id = none := by
   rcases H.ids b hb with ⟨b0,hb0,e⟩ | ⟨q1,q2⟩
   ·rw [hm] at hb0
    obtain ⟨i,hi,rfl⟩ := tab_of hb0
    rw [← e] at hb3
    exact absurd hi (by show ¬ i < 3; have : 3 ≤ i := hb3; omega)
   ·exact hf _ (by omega) q2
  rcases k3.new b.id G hG' (by rw [hG',hid]; simp) x hx with h | ⟨b0,hb0,L0,hL0,hx0⟩
  ·exact h
  ·exfalso
   obtain ⟨q1,q2⟩ := tabOwn b0 hb0 L0 hL0 x hx0
   rw [hm] at hb0
   obtain ⟨i,hi,rfl⟩ := tab_of hb0
   obtain ⟨L2,us,f1,_,f3,_⟩ := k2.blk (tabB i) (h2 _ (tabB_mem hi)) rfl
   obtain ⟨L3,f4,f5,_⟩ := k3.le i L0 hL0
   rw [show (tabB i).id = i from rfl,f4] at f1
   injection f1 with f1
   subst f1
   have e0 : L0.n = i := by
    have := hρ i hi
    rw [show ρ i = some L0 from hL0,tabMap,if_pos hi] at this
    injection this with this
    rw [this]
   exact k2.disj b hb (tabB i) (h2 _ (tabB_mem hi)) hc rfl (by show b.id ≠ i; omega) G L3 hG' f4 x hx ((f3 x).2 (by rw [f5,e0]; exact q2))
end
section
variable {O O' : Objs} {ρ : Map} {E : Nat → Int} {w : World} {l : List (FuncId × Ctr)}
theorem sats_lit {kn : List (Nat × Int)} (h : ∀ p ∈ kn,E p.1 = p.2) : ∀ {ls : List Leaf} {vs : List Value},sats ρ E ls vs → sats ρ E (ls.map (litL kn)) vs
 | [],_,_=>trivial
 | _ :: _,[],hv=>hv.elim
 | l :: _,_ :: _,hv=>⟨litL_ok h l hv.1,sats_lit h hv.2⟩
def litA (kn : List (Nat × Int)) : SV → SV
 | .a (.one l)=>.a (.one (litL kn l))
 | .a (.agg ls)=>.a (.agg (ls.map (litL kn)))
 | x=>x
theorem litA_ok {kn : List (Nat × Int)} (h : ∀ p ∈ kn,E p.1 = p.2) {x : SV} {v : Value} (hv : x.sat ρ E v) : (litA kn x).sat ρ E v := by
 match x,hv with
 | .a (.one l),hv=>exact litL_ok h l hv
 | .a (.agg ls),⟨cs,e,hl,hs⟩=>exact ⟨cs,e,by rw [hl,List.length_map],sats_lit h hs⟩
 | .tup _,hv=>exact hv
 | .whn _ _,hv=>exact hv
def glB : Bd := ⟨[(0,0),(1,1),(2,2)],[],[]⟩
def giveB (pa : List SV) (pm : List SB) (act : List SV) (bs : List SB) (nt : Nat) : Option Bd := match mtVs obN pa act with
 | some d0=>match again pm (glB.app d0) bs with
  | some d=>if d0.op.isEmpty && d.bl.all (fun x=>Nat.blt x.1 nt) then some d else none
  | none=>none
 | none=>none
def giveR (pa : List SV) (pm : List SB) (act : List SV) (bs : List SB) (nt k : Nat) : Option (List Ref) := match giveB pa pm act bs nt with
 | some d=>if entsOk d.en (entsOf d.en k) then some (entsOf d.en k) else none
 | none=>none
def giveL (pa : List SV) (pm : List SB) (act : List SV) (bs : List SB) (nt : Nat) : List (Nat × Nat) := match giveB pa pm act bs nt with
 | some d=>d.bl
 | none=>[]
theorem give_ok {pa : List SV} {pm : List SB} {act : List SV} {bs : List SB} {nt k : Nat} {rs : List Ref} (h : giveR pa pm act bs nt k = some rs) (hM : M O ρ E bs w) {vs : List Value} (hv : satVs ρ E act vs) (hG : GlobOk (mkCx l) ρ) :
  ∃ ρf,satVs ρf (ofL (rs.map (Ref.val E))) pa vs ∧ M O ρf (ofL (rs.map (Ref.val E))) pm w ∧ rs.length = k ∧ GlobOk (mkCx l) ρf ∧ (∀ i,nt ≤ i → ρf i = none) ∧ (∀ i B,ρf i = some B → ∃ j,(i,j) ∈ giveL pa pm act bs nt ∧ ρ j = some B) ∧
   ∀ x ∈ giveL pa pm act bs nt,ρf x.1 = ρ x.2 := by
 unfold giveR at h
 split at h
 rotate_left
 ·cases h
 rename_i d hd
 split at h
 rotate_left
 ·cases h
 rename_i hen
 injection h with h; subst h
 have hgl : giveL pa pm act bs nt = d.bl := by unfold giveL; rw [hd]
 unfold giveB at hd
 split at hd
 rotate_left
 ·cases hd
 rename_i d0 hd0
 split at hd
 rotate_left
 ·cases hd
 rename_i d1 hd1
 split at hd
 rotate_left
 ·cases hd
 rename_i hc
 injection hd with hd; subst hd
 rw [Bool.and_eq_true,List.isEmpty_iff] at hc
 obtain ⟨k1,k2,k3,k4,_,_⟩ := again_ok hd1 hM (ents_ok (E := E) hen)
 obtain ⟨ov,o1,_,o3⟩ := mtVs_ok hd0 hv
 have hov : ov = [] := by
  unfold Ov.of at o1
  rw [hc.1] at o1
  simpa using o1
 subst hov
 have hbi : ∀ i B,bindMap ρ d1.bl i = some B → ∃ j,(i,j) ∈ d1.bl ∧ ρ j = some B := fun i B hB=>by
  unfold bindMap at hB
  cases hl : lkp d1.bl i with
  | none=>rw [hl] at hB; cases hB
  | some j=>rw [hl] at hB; exact ⟨j,lkp_mem hl,hB⟩
 refine ⟨_,o3 _ _ ⟨fun x hx=>k2.bl x (List.mem_append_right _ hx),fun x hx=>(by cases hx),fun x hx=>k2.en x (List.mem_append_right _ hx)⟩,k1,by simp [entsOf],fun gl id hg=>?_,fun i hi=>?_,fun i B hB=>?_,fun x hx=>?_⟩
 ·obtain ⟨L,hL,e⟩ := hG gl id hg
  have hlt : id < 3 := mkCx_glob l gl id hg
  have : (id,id) ∈ glB.bl := by
   match id,hlt with
   | 0,_=>decide
   | 1,_=>decide
   | 2,_=>decide
  exact ⟨L,(k3 _ (k4 _ (List.mem_append_left _ this))).trans hL,e⟩
 ·refine bindMap_none fun x hx e=>?_
  have := List.all_eq_true.1 hc.2 x hx
  rw [Nat.blt_eq] at this
  omega
 ·rw [hgl]; exact hbi i B hB
 ·rw [hgl] at hx; exact k3 x hx
end
section
variable {C : Cx}
def MLit.defAt (L : MLit) (C : Cx) (d fuel : Nat) (f : FuncId) (ts : List (Nat × (Df → Bool))) : Bool := match L.ev C d fuel f with
 | some r=>wfDefs r.2.2.nd r.2.2.defs && ts.all fun p=>match r.2.2.at_ p.1 with
  | some D=>p.2 D
  | none=>false
 | none=>false
theorem MLit.defAt_ok {L : MLit} {f : FuncId} {fuel d : Nat} {ts : List (Nat × (Df → Bool))} (h : L.defAt C d fuel f ts = true) (xs : List Int) : ∀ p ∈ ts,∃ D,p.2 D = true ∧ L.ent C d fuel f xs p.1 = D.den (ofL xs) X0 (L.ent C d fuel f xs) := fun p hp=>by
 unfold MLit.defAt at h
 split at h
 ·rename_i r hev
  rw [Bool.and_eq_true] at h
  have e2 : L.ent C d fuel f xs = runDefs (ofL xs) X0 r.2.2.defs := funext fun i=>by simp only [MLit.ent,runF,hev]
  have hp := List.all_eq_true.1 h.2 p hp
  split at hp
  ·rename_i D hD
   refine ⟨D,hp,?_⟩
   rw [e2]
   unfold Gl.at_ at hD
   split at hD
   ·rename_i hi
    exact goodL_at (runDefs_good h.1) hi hD
   ·cases hD
  ·cases hp
 ·cases h
end
abbrev li (n : Int) : Leaf := .int .i64 (.c n)
abbrev lb (n : Int) : Leaf := .bool (.c n)
abbrev lk (a : List SV) (o : SV) : Lit := ⟨a,0,[],o,[],tabs3⟩
noncomputable def aw0 : List (FuncId × Ctr) := []
def k208_0 : Lit := lk [.a (.one (iC 0)),.a (.one (iC 0))] (.a (.one (iC 0)))
noncomputable def aw1 : List (FuncId × Ctr) := (208,(k208_0.sum (mkCx aw0) 20 400 208 3).ctr) :: aw0
def k254_0 : Lit := lk [.a (.one (iC (-5461)))] (.tup [.one (iC 28376),.one (iC (-16381))])
def k254_1 : Lit := lk [.a (.one (iC 1))] (.tup [.one (iC 32767),.one (iC 3)])
def k254_2 : Lit := lk [.a (.one (iC 1024))] (.tup [.one (iC 32610),.one (iC 3211)])
def k254_3 : Lit := lk [.a (.one (iC 128))] (.tup [.one (iC 32763),.one (iC 402)])
def k254_4 : Lit := lk [.a (.one (iC 16))] (.tup [.one (iC 32767),.one (iC 50)])
def k254_5 : Lit := lk [.a (.one (iC 2))] (.tup [.one (iC 32767),.one (iC 6)])
def k254_6 : Lit := lk [.a (.one (iC 2048))] (.tup [.one (iC 32138),.one (iC 6392)])
def k254_7 : Lit := lk [.a (.one (iC 256))] (.tup [.one (iC 32758),.one (iC 804)])
def k254_8 : Lit := lk [.a (.one (iC 32))] (.tup [.one (iC 32766),.one (iC 100)])
def k254_9 : Lit := lk [.a (.one (iC 4))] (.tup [.one (iC 32767),.one (iC 12)])
def k254_10 : Lit := lk [.a (.one (iC 4096))] (.tup [.one (iC 30273),.one (iC 12539)])
def k254_11 : Lit := lk [.a (.one (iC 512))] (.tup [.one (iC 32728),.one (iC 1607)])
def k254_12 : Lit := lk [.a (.one (iC 5461))] (.tup [.one (iC 28376),.one (iC 16381)])
def k254_13 : Lit := lk [.a (.one (iC 64))] (.tup [.one (iC 32765),.one (iC 201)])
def k254_14 : Lit := lk [.a (.one (iC 8))] (.tup [.one (iC 32767),.one (iC 25)])
def k254_15 : Lit := lk [.a (.one (iC 8192))] (.tup [.one (iC 23170),.one (iC 23170)])
noncomputable def aw2 : List (FuncId × Ctr) := (254,((k254_0.sum (mkCx aw1) 20 400 254 3).ctr.or (((k254_1.sum (mkCx aw1) 20 400 254 3).ctr.or (((k254_2.sum (mkCx aw1) 20 400 254 3).ctr.or (((k254_3.sum (mkCx aw1) 20 400 254 3).ctr.or (((k254_4.sum (mkCx aw1) 20 400 254 3).ctr.or (((k254_5.sum (mkCx aw1) 20 400 254 3).ctr.or (((k254_6.sum (mkCx aw1) 20 400 254 3).ctr.or (((k254_7.sum (mkCx aw1) 20 400 254 3).ctr.or (((k254_8.sum (mkCx aw1) 20 400 254 3).ctr.or (((k254_9.sum (mkCx aw1) 20 400 254 3).ctr.or (((k254_10.sum (mkCx aw1) 20 400 254 3).ctr.or (((k254_11.sum (mkCx aw1) 20 400 254 3).ctr.or (((k254_12.sum (mkCx aw1) 20 400 254 3).ctr.or (((k254_13.sum (mkCx aw1) 20 400 254 3).ctr.or (((k254_14.sum (mkCx aw1) 20 400 254 3).ctr.or ((k254_15.sum (mkCx aw1) 20 400 254 3).ctr))))))))))))))))))))))))))))))) :: aw1
def k216_0 : Lit := lk [.a (.one (iC 0)),.a (.one (iC 0)),.a (.one (iC (-5461)))] (.tup [.one (iC 0),.one (iC 0),.one (.nilI)])
def k216_1 : Lit := lk [.a (.one (iC 0)),.a (.one (iC 0)),.a (.one (iC 5461))] (.tup [.one (iC 0),.one (iC 0),.one (.nilI)])
noncomputable def aw3 : List (FuncId × Ctr) := (216,((k216_0.sum (mkCx aw2) 20 400 216 3).ctr.or ((k216_1.sum (mkCx aw2) 20 400 216 3).ctr))) :: aw2
def k219_0 : Lit := lk [.a (.one (iC 0))] (.a (.one (iC 0)))
def k219_1 : Lit := lk [.a (.one (iC 144000000))] (.a (.one (iC 12000)))
def k219_2 : Lit := lk [.a (.one (iC 767844100))] (.a (.one (iC 27710)))
noncomputable def aw4 : List (FuncId × Ctr) := (219,((k219_0.sum (mkCx aw3) 20 400 219 3).ctr.or (((k219_1.sum (mkCx aw3) 20 400 219 3).ctr.or ((k219_2.sum (mkCx aw3) 20 400 219 3).ctr))))) :: aw3
def k155_0 : Lit := lk [.a (.one (iC 0)),.a (.one (iC 0))] (.tup [.one (iC 0),.one (.nilI)])
noncomputable def aw5 : List (FuncId × Ctr) := (155,(k155_0.sum (mkCx aw4) 20 400 155 3).ctr) :: aw4
def k212_0 : Lit := lk [.a (.one (iC (-5461)))] (.a (.one (iC 60075)))
def k212_1 : Lit := lk [.a (.one (iC 1))] (.a (.one (iC 1)))
def k212_2 : Lit := lk [.a (.one (iC 1024))] (.a (.one (iC 1024)))
def k212_3 : Lit := lk [.a (.one (iC 128))] (.a (.one (iC 128)))
def k212_4 : Lit := lk [.a (.one (iC 16))] (.a (.one (iC 16)))
def k212_5 : Lit := lk [.a (.one (iC 2))] (.a (.one (iC 2)))
def k212_6 : Lit := lk [.a (.one (iC 2048))] (.a (.one (iC 2048)))
def k212_7 : Lit := lk [.a (.one (iC 256))] (.a (.one (iC 256)))
def k212_8 : Lit := lk [.a (.one (iC 32))] (.a (.one (iC 32)))
def k212_9 : Lit := lk [.a (.one (iC 32768))] (.a (.one (iC 32768)))
def k212_10 : Lit := lk [.a (.one (iC 32770))] (.a (.one (iC 32770)))
def k212_11 : Lit := lk [.a (.one (iC 4))] (.a (.one (iC 4)))
def k212_12 : Lit := lk [.a (.one (iC 4096))] (.a (.one (iC 4096)))
def k212_13 : Lit := lk [.a (.one (iC 512))] (.a (.one (iC 512)))
def k212_14 : Lit := lk [.a (.one (iC 5461))] (.a (.one (iC 5461)))
def k212_15 : Lit := lk [.a (.one (iC 64))] (.a (.one (iC 64)))
def k212_16 : Lit := lk [.a (.one (iC 8))] (.a (.one (iC 8)))
def k212_17 : Lit := lk [.a (.one (iC 8192))] (.a (.one (iC 8192)))
noncomputable def aw6 : List (FuncId × Ctr) := (212,((k212_0.sum (mkCx aw5) 20 400 212 3).ctr.or (((k212_1.sum (mkCx aw5) 20 400 212 3).ctr.or (((k212_2.sum (mkCx aw5) 20 400 212 3).ctr.or (((k212_3.sum (mkCx aw5) 20 400 212 3).ctr.or (((k212_4.sum (mkCx aw5) 20 400 212 3).ctr.or (((k212_5.sum (mkCx aw5) 20 400 212 3).ctr.or (((k212_6.sum (mkCx aw5) 20 400 212 3).ctr.or (((k212_7.sum (mkCx aw5) 20 400 212 3).ctr.or (((k212_8.sum (mkCx aw5) 20 400 212 3).ctr.or (((k212_9.sum (mkCx aw5) 20 400 212 3).ctr.or (((k212_10.sum (mkCx aw5) 20 400 212 3).ctr.or (((k212_11.sum (mkCx aw5) 20 400 212 3).ctr.or (((k212_12.sum (mkCx aw5) 20 400 212 3).ctr.or (((k212_13.sum (mkCx aw5) 20 400 212 3).ctr.or (((k212_14.sum (mkCx aw5) 20 400 212 3).ctr.or (((k212_15.sum (mkCx aw5) 20 400 212 3).ctr.or (((k212_16.sum (mkCx aw5) 20 400 212 3).ctr.or ((k212_17.sum (mkCx aw5) 20 400 212 3).ctr))))))))))))))))))))))))))))))))))) :: aw5
def k251_0 : Lit := lk [.a (.one (iC 0)),.a (.one (iC 0))] (.a (.one (iC 0)))
def k251_1 : Lit := lk [.a (.one (iC 2)),.a (.one (iC 0))] (.a (.one (iC 2)))
noncomputable def aw7 : List (FuncId × Ctr) := (251,((k251_0.sum (mkCx aw6) 20 400 251 3).ctr.or ((k251_1.sum (mkCx aw6) 20 400 251 3).ctr))) :: aw6
def k153_0 : Lit := lk [.a (.one (iC 0)),.a (.one (iC 0)),.a (.one (iC 5461))] (.tup [.one (iC 0),.one (iC 0),.one (.nilI)])
noncomputable def aw8 : List (FuncId × Ctr) := (153,(k153_0.sum (mkCx aw7) 20 400 153 3).ctr) :: aw7
def k235_0 : Lit := lk [.a (.one (iC 0)),.a (.one (iC 0)),.a (.one (iC 5461))] (.tup [.one (iC 0),.one (iC 0),.one (.nilI)])
noncomputable def aw9 : List (FuncId × Ctr) := (235,(k235_0.sum (mkCx aw8) 20 400 235 3).ctr) :: aw8
def k142_0 : Lit := lk [.a (.one (iC 0)),.a (.one (iC 0)),.a (.one (iC 0))] (.tup [.one (iC 0),.one (iC 0),.one (.nilI)])
noncomputable def aw10 : List (FuncId × Ctr) := (142,(k142_0.sum (mkCx aw9) 20 400 142 3).ctr) :: aw9
def k280_0 : Lit := lk [.a (.one (iC 0)),.a (.one (iC 0))] (.tup [.agg [iC 0,iC 0,iC 0],.one (.nilI)])
noncomputable def aw11 : List (FuncId × Ctr) := (280,(k280_0.sum (mkCx aw10) 20 400 280 3).ctr) :: aw10
def k255_0 : Lit := lk [.a (.one (iC 2)),.a (.one (iC 0))] (.a (.one (iC 2)))
noncomputable def aw12 : List (FuncId × Ctr) := (255,(k255_0.sum (mkCx aw11) 20 400 255 3).ctr) :: aw11
def k281_0 : Lit := lk [.a (.one (iC 4800000)),.a (.one (iC 96000))] (.a (.one (iC 50)))
noncomputable def aw13 : List (FuncId × Ctr) := (281,(k281_0.sum (mkCx aw12) 20 400 281 3).ctr) :: aw12
def k236_0 : Lit := lk [.a (.one (iC 0)),.a (.one (iC 0)),.a (.one (iC 48000)),.a (.one (iC 100))] (.tup [.agg [iC 50,iC 50,iC 50,bC 0],.one (.nilI)])
noncomputable def aw14 : List (FuncId × Ctr) := (236,(k236_0.sum (mkCx aw13) 20 400 236 3).ctr) :: aw13
def k231_0 : Lit := lk [.a (.agg [iC 2048,iC 400,iC (-30000),iC 30000]),.a (.agg [iC 0]),.a (.one (iC 0))] (.tup [.agg [iC 0],.one (iC 0),.one (.nilI)])
noncomputable def aw15 : List (FuncId × Ctr) := (231,(k231_0.sum (mkCx aw14) 20 400 231 3).ctr) :: aw14
def k268_0 : Lit := lk [.a (.agg [iC 0,iC 25000,iC 48000])] (.a (.one (iC 0)))
noncomputable def aw16 : List (FuncId × Ctr) := (268,(k268_0.sum (mkCx aw15) 20 400 268 3).ctr) :: aw15
def k275_0 : Lit := lk [.a (.one (iC 0)),.a (.one (iC 0))] (.a (.one (iC 0)))
def k275_1 : Lit := lk [.a (.one (iC 20000)),.a (.one (iC 0))] (.a (.one (iC 0)))
noncomputable def aw17 : List (FuncId × Ctr) := (275,((k275_0.sum (mkCx aw16) 20 400 275 3).ctr.or ((k275_1.sum (mkCx aw16) 20 400 275 3).ctr))) :: aw16
def k272_0 : Lit := lk [.a (.agg [iC 0,iC 0])] (.a (.agg [iC 0,iC 0]))
noncomputable def aw18 : List (FuncId × Ctr) := (272,(k272_0.sum (mkCx aw17) 20 400 272 3).ctr) :: aw17
def k274_0 : Lit := lk [.a (.agg [iC 2048,iC 400,iC (-30000),iC 30000]),.a (.agg [iC 0]),.a (.one (iC 0)),.a (.one (iC 0))] (.tup [.agg [iC 2048,iC 400,iC (-30000),iC 30000,iC 0,iC 0,iC 0,iC 0],.one (.nilI)])
noncomputable def aw19 : List (FuncId × Ctr) := (274,(k274_0.sum (mkCx aw18) 20 400 274 3).ctr) :: aw18
def k234_0 : Lit := lk [.a (.agg [iC 2048,iC 400,iC (-30000),iC 30000,iC 2048,iC 400,iC (-30000),iC 30000,iC 2048,iC 2048,iC 20000]),.a (.agg [iC 0,iC 0]),.a (.agg [iC 0,iC 0,iC 0,iC 0,iC 0,iC 27710,bC 1])] (.tup [.agg [iC 0,iC 0],.agg [iC 0,iC 0],.one (.nilI)])
noncomputable def aw20 : List (FuncId × Ctr) := (234,(k234_0.sum (mkCx aw19) 20 400 234 3).ctr) :: aw19
def k201_0 : Lit := lk [.a (.agg [iC 0,iC 0,iC 0,iC 0,iC 0,iC 0,bC 0])] (.a (.agg [iC 0,iC 0,iC 0,iC 0,iC 0,iC 0,bC 0]))
def k201_1 : Lit := lk [.a (.agg [iC 0,iC 0,iC 0,iC 0,iC 0,iC 0,bC 1])] (.a (.agg [iC 0,iC 0,iC 0,iC 0,iC 0,iC 0,bC 1]))
def k201_2 : Lit := lk [.a (.agg [iC 0,iC 0,iC 1,iC 0,iC 0,iC 0,bC 1])] (.a (.agg [iC 0,iC 0,iC 1,iC 0,iC 0,iC 0,bC 1]))
def k201_3 : Lit := lk [.a (.agg [iC 0,iC 0,iC 2,iC 0,iC 0,iC 0,bC 1])] (.a (.agg [iC 0,iC 0,iC 2,iC 0,iC 0,iC 0,bC 1]))
def k201_4 : Lit := lk [.a (.agg [iC 0,iC 0,iC 3,iC 0,iC 0,iC 0,bC 1])] (.a (.agg [iC 0,iC 0,iC 3,iC 0,iC 0,iC 0,bC 1]))
def k201_5 : Lit := lk [.a (.agg [iC 0,iC 0,iC 4,iC 0,iC 0,iC 0,bC 1])] (.a (.agg [iC 0,iC 0,iC 4,iC 0,iC 0,iC 0,bC 1]))
noncomputable def aw21 : List (FuncId × Ctr) := (201,((k201_0.sum (mkCx aw20) 20 400 201 3).ctr.or (((k201_1.sum (mkCx aw20) 20 400 201 3).ctr.or (((k201_2.sum (mkCx aw20) 20 400 201 3).ctr.or (((k201_3.sum (mkCx aw20) 20 400 201 3).ctr.or (((k201_4.sum (mkCx aw20) 20 400 201 3).ctr.or ((k201_5.sum (mkCx aw20) 20 400 201 3).ctr))))))))))) :: aw20
def k199_0 : Lit := lk [.a (.agg [bC 0,bC 0,bC 1])] (.a (.one (iC 0)))
noncomputable def aw22 : List (FuncId × Ctr) := (199,(k199_0.sum (mkCx aw21) 20 400 199 3).ctr) :: aw21
def k200_0 : Lit := lk [.a (.one (iC 0)),.a (.one (iC (-1099511627776))),.a (.one (iC 1099511627776))] (.a (.one (iC 0)))
def k200_1 : Lit := lk [.a (.one (iC 0)),.a (.one (iC 0)),.a (.one (iC 1099511627776))] (.a (.one (iC 0)))
noncomputable def aw23 : List (FuncId × Ctr) := (200,((k200_0.sum (mkCx aw22) 20 400 200 3).ctr.or ((k200_1.sum (mkCx aw22) 20 400 200 3).ctr))) :: aw22
def k140_0 : Lit := lk [.a (.agg [iC 16384,iC 2]),.a (.agg [iC 0,iC 0,iC 0,iC 0,bC 0,bC 0,bC 0]),.a (.agg [bC 0,bC 0,bC 1])] (.tup [.agg [iC 0,iC 0,iC 0,iC 0,bC 0,bC 1,bC 1],.one (.nilI)])
def k140_1 : Lit := lk [.a (.agg [iC 16384,iC 2]),.a (.agg [iC 0,iC 0,iC 0,iC 0,bC 0,bC 1,bC 1]),.a (.agg [bC 0,bC 0,bC 1])] (.tup [.agg [iC 0,iC 0,iC 0,iC 0,bC 0,bC 1,bC 1],.one (.nilI)])
noncomputable def aw24 : List (FuncId × Ctr) := (140,((k140_0.sum (mkCx aw23) 20 400 140 3).ctr.or ((k140_1.sum (mkCx aw23) 20 400 140 3).ctr))) :: aw23
def k144_0 : Lit := lk [.a (.agg [iC 16384,iC 2]),.a (.agg [iC 0,iC 0,iC 0,iC 0,bC 0,bC 1,bC 1])] (.tup [.one (iC 2),.one (.nilI)])
noncomputable def aw25 : List (FuncId × Ctr) := (144,(k144_0.sum (mkCx aw24) 20 400 144 3).ctr) :: aw24
def k197_0 : Lit := lk [.a (.one (iC 2147483648))] (.a (.one (iC 2147483648)))
def k197_1 : Lit := lk [.a (.one (iC 357892096))] (.a (.one (iC 357892096)))
noncomputable def aw26 : List (FuncId × Ctr) := (197,((k197_0.sum (mkCx aw25) 20 400 197 3).ctr.or ((k197_1.sum (mkCx aw25) 20 400 197 3).ctr))) :: aw25
def k198_0 : Lit := lk [.a (.one (iC 357892096)),.a (.one (iC 5461))] (.a (.one (iC 0)))
noncomputable def aw27 : List (FuncId × Ctr) := (198,(k198_0.sum (mkCx aw26) 20 400 198 3).ctr) :: aw26
def k196_0 : Lit := lk [.a (.one (iC 5461))] (.a (.agg [iC 357892096,bC 1]))
noncomputable def aw28 : List (FuncId × Ctr) := (196,(k196_0.sum (mkCx aw27) 20 400 196 3).ctr) :: aw27
def k138_0 : Lit := lk [.a (.one (iC 4194304)),.a (.agg [iC 0,bC 0]),.a (.agg [iC 5461,iC 0])] (.tup [.agg [iC 357892096,bC 1],.one (.nilI)])
def k138_1 : Lit := lk [.a (.one (iC 4194304)),.a (.agg [iC 357892096,bC 1]),.a (.agg [iC 5461,iC 0])] (.tup [.agg [iC 357892096,bC 1],.one (.nilI)])
noncomputable def aw29 : List (FuncId × Ctr) := (138,((k138_0.sum (mkCx aw28) 20 400 138 3).ctr.or ((k138_1.sum (mkCx aw28) 20 400 138 3).ctr))) :: aw28
def k250_0 : Lit := lk [.a (.one (iC 0))] (.a (.one (iC 0)))
noncomputable def aw30 : List (FuncId × Ctr) := (250,(k250_0.sum (mkCx aw29) 20 400 250 3).ctr) :: aw29
def k252_0 : Lit := lk [.a (.one (iC 0)),.a (.one (iC (-1048576))),.a (.one (iC 1048576))] (.a (.one (iC 0)))
def k252_1 : Lit := lk [.a (.one (iC 0)),.a (.one (iC (-1073741824))),.a (.one (iC 1073741824))] (.a (.one (iC 0)))
def k252_2 : Lit := lk [.a (.one (iC 0)),.a (.one (iC (-70368744177664))),.a (.one (iC 70368744177664))] (.a (.one (iC 0)))
noncomputable def aw31 : List (FuncId × Ctr) := (252,((k252_0.sum (mkCx aw30) 20 400 252 3).ctr.or (((k252_1.sum (mkCx aw30) 20 400 252 3).ctr.or ((k252_2.sum (mkCx aw30) 20 400 252 3).ctr))))) :: aw30
def k248_0 : Lit := lk [.a (.agg [iC 0,iC 0]),.a (.one (iC 1048576))] (.a (.agg [iC 0,iC 0]))
def k248_1 : Lit := lk [.a (.agg [iC 0,iC 0]),.a (.one (iC 70368744177664))] (.a (.agg [iC 0,iC 0]))
noncomputable def aw32 : List (FuncId × Ctr) := (248,((k248_0.sum (mkCx aw31) 20 400 248 3).ctr.or ((k248_1.sum (mkCx aw31) 20 400 248 3).ctr))) :: aw31
def k261_0 : Lit := lk [.a (.agg sq77),.a (.agg [iC 0,iC 0,iC 0])] (.a (.one (bC 0)))
noncomputable def aw33 : List (FuncId × Ctr) := (261,(k261_0.sum (mkCx aw32) 20 400 261 3).ctr) :: aw32
def k262_0 : Lit := lk [.a (.one (iC 0)),.a (.one (iC 1073741824))] (.a (.one (iC 0)))
def k262_1 : Lit := lk [.a (.one (iC 0)),.a (.one (iC 16777216))] (.a (.one (iC 0)))
def k262_2 : Lit := lk [.a (.one (iC 0)),.a (.one (iC 2097152))] (.a (.one (iC 0)))
noncomputable def aw34 : List (FuncId × Ctr) := (262,((k262_0.sum (mkCx aw33) 20 400 262 3).ctr.or (((k262_1.sum (mkCx aw33) 20 400 262 3).ctr.or ((k262_2.sum (mkCx aw33) 20 400 262 3).ctr))))) :: aw33
def k217_0 : Lit := lk [.a (.agg sq77),.a (.agg [iC 0,iC 0,iC 0,iC 0,iC 0,iC 2,iC 0])] (.tup [.agg [bC 0,bC 0,bC 0,bC 0],.one (.nilI)])
noncomputable def aw35 : List (FuncId × Ctr) := (217,(k217_0.sum (mkCx aw34) 20 400 217 3).ctr) :: aw34
def k157_0 : Lit := lk [.a (.one (iC 0)),.a (.one (iC 100))] (.a (.one (iC 0)))
noncomputable def aw36 : List (FuncId × Ctr) := (157,(k157_0.sum (mkCx aw35) 20 400 157 3).ctr) :: aw35
def k158_0 : Lit := lk [.a (.agg [iC 1,iC 10,iC 100000,iC 150000,iC 90000]),.a (.one (iC 1638400000)),.a (.one (iC 0))] (.tup [.one (iC 0),.one (.nilI)])
noncomputable def aw37 : List (FuncId × Ctr) := (158,(k158_0.sum (mkCx aw36) 20 400 158 3).ctr) :: aw36
def k220_0 : Lit := lk [.a (.agg [iC 1,iC 10,iC 100000,iC 150000,iC 90000]),.a (.agg [iC 1638400000,iC 0,iC 25000,iC 0])] (.a (.one (iC 1638400000)))
noncomputable def aw38 : List (FuncId × Ctr) := (220,(k220_0.sum (mkCx aw37) 20 400 220 3).ctr) :: aw37
def k156_0 : Lit := lk [.a (.agg [iC 1,iC 10,iC 100000,iC 150000,iC 90000]),.a (.agg [iC 1638400000,iC 0,iC 25000,iC 0])] (.tup [.one (iC 1638400000),.one (.nilI)])
noncomputable def aw39 : List (FuncId × Ctr) := (156,(k156_0.sum (mkCx aw38) 20 400 156 3).ctr) :: aw38
def k24_0 : Lit := lk [.a (.one (iC 48000))] (.tup [.one (iC 27710),.one (.nilI)])
noncomputable def aw40 : List (FuncId × Ctr) := (24,(k24_0.sum (mkCx aw39) 20 400 24 3).ctr) :: aw39
def k154_0 : Lit := lk [.a (.agg sq77),.a (.agg [iC 0,iC 0,iC 0,iC 0,bC 0,bC 0,bC 0,bC 0]),.a (.agg [iC 0,iC 0,iC 0,iC 0,iC 0,iC 2,iC 0])] (.tup [.agg [iC 0,iC 0,iC 0,iC 0,bC 0,bC 0,bC 0,bC 0],.one (.nilI)])
noncomputable def aw41 : List (FuncId × Ctr) := (154,(k154_0.sum (mkCx aw40) 20 400 154 3).ctr) :: aw40
def k207_0 : Lit := lk [.a (.agg [iC 500,iC 2048,iC 10,iC 20000,iC 1000]),.a (.agg [iC 0,iC 0,iC 0,iC 0]),.a (.one (iC 0))] (.a (.agg [iC 0,iC 0,iC 0,iC 0]))
noncomputable def aw42 : List (FuncId × Ctr) := (207,(k207_0.sum (mkCx aw41) 20 400 207 3).ctr) :: aw41
def k206_0 : Lit := lk [.a (.agg [iC 500,iC 2048,iC 10,iC 20000,iC 1000]),.a (.agg [iC 0,iC 0]),.a (.agg [iC 0,iC 0])] (.a (.agg [iC 0,iC 0]))
noncomputable def aw43 : List (FuncId × Ctr) := (206,(k206_0.sum (mkCx aw42) 20 400 206 3).ctr) :: aw42
def k97_0 : Lit := lk [.a (.agg [iC 64,iC 2,iC 8]),.a (.agg [iC 0,iC 0,iC 3,iC 3,bC 0,bC 0,bC 0]),.a (.agg [bC 0,bC 0,bC 0,bC 0])] (.tup [.agg [iC 1,iC 0,iC 0,iC 0,bC 1,bC 1,bC 0],.one (.nilI)])
def k97_1 : Lit := lk [.a (.agg [iC 64,iC 2,iC 8]),.a (.agg [iC 1,iC 0,iC 0,iC 0,bC 1,bC 1,bC 0]),.a (.agg [bC 0,bC 0,bC 1,bC 1])] (.tup [.agg [iC 2,iC 0,iC 0,iC 0,bC 1,bC 1,bC 0],.one (.nilI)])
def k97_2 : Lit := lk [.a (.agg [iC 64,iC 2,iC 8]),.a (.agg [iC 2,iC 0,iC 0,iC 0,bC 1,bC 1,bC 0]),.a (.agg [bC 0,bC 0,bC 1,bC 1])] (.tup [.agg [iC 3,iC 0,iC 0,iC 0,bC 1,bC 1,bC 0],.one (.nilI)])
def k97_3 : Lit := lk [.a (.agg [iC 64,iC 2,iC 8]),.a (.agg [iC 3,iC 0,iC 0,iC 0,bC 1,bC 1,bC 0]),.a (.agg [bC 0,bC 0,bC 1,bC 1])] (.tup [.agg [iC 4,iC 0,iC 0,iC 0,bC 1,bC 1,bC 0],.one (.nilI)])
def k97_4 : Lit := lk [.a (.agg [iC 64,iC 2,iC 8]),.a (.agg [iC 4,iC 0,iC 0,iC 0,bC 1,bC 1,bC 0]),.a (.agg [bC 0,bC 0,bC 1,bC 1])] (.tup [.agg [iC 5,iC 0,iC 0,iC 0,bC 1,bC 1,bC 0],.one (.nilI)])
noncomputable def aw44 : List (FuncId × Ctr) := (97,((k97_0.sum (mkCx aw43) 20 400 97 3).ctr.or (((k97_1.sum (mkCx aw43) 20 400 97 3).ctr.or (((k97_2.sum (mkCx aw43) 20 400 97 3).ctr.or (((k97_3.sum (mkCx aw43) 20 400 97 3).ctr.or ((k97_4.sum (mkCx aw43) 20 400 97 3).ctr))))))))) :: aw43
def k205_0 : Lit := lk [.a (.agg [iC 500,iC 2048,iC 10,iC 20000,iC 1000]),.a (.agg [iC 0,iC 0,iC 0,iC 0]),.a (.agg [iC 0,iC 0]),.a (.agg [iC 0,iC 0])] (.a (.agg [iC 0,iC 0]))
noncomputable def aw45 : List (FuncId × Ctr) := (205,(k205_0.sum (mkCx aw44) 20 400 205 3).ctr) :: aw44
def k143_0 : Lit := lk [.a (.agg [iC 500,iC 2048,iC 10,iC 20000,iC 1000]),.a (.agg [iC 0,iC 0,iC 0,iC 0]),.a (.agg [iC 0,iC 0]),.a (.agg [iC 0,iC 0])] (.tup [.agg [iC 0,iC 0,iC 0,iC 0],.one (.nilI)])
noncomputable def aw46 : List (FuncId × Ctr) := (143,(k143_0.sum (mkCx aw45) 20 400 143 3).ctr) :: aw45
def k237_0 : Lit := lk [.a (.agg [iC 50,iC 50,iC 50]),.a (.one (iC 100)),.a (.one (iC 10))] (.tup [.agg [iC 25,iC 75,iC 25,iC 75,iC 25,iC 75],.one (.nilI)])
noncomputable def aw47 : List (FuncId × Ctr) := (237,(k237_0.sum (mkCx aw46) 20 400 237 3).ctr) :: aw46
def k163_0 : Lit := lk [.a (.one (iC 0)),.a (.agg [iC 0,bC 1,bC 0,bC 1,bC 1])] (.tup [.one (iC 1),.one (.nilI)])
def k163_1 : Lit := lk [.a (.one (iC 1)),.a (.agg [iC 6,bC 1,bC 0,bC 1,bC 1])] (.tup [.one (iC 2),.one (.nilI)])
def k163_2 : Lit := lk [.a (.one (iC 2)),.a (.agg [iC 7,bC 1,bC 0,bC 1,bC 1])] (.tup [.one (iC 3),.one (.nilI)])
def k163_3 : Lit := lk [.a (.one (iC 3)),.a (.agg [iC 15,bC 1,bC 0,bC 1,bC 1])] (.tup [.one (iC 4),.one (.nilI)])
def k163_4 : Lit := lk [.a (.one (iC 4)),.a (.agg [iC 15,bC 1,bC 0,bC 1,bC 1])] (.tup [.one (iC 4),.one (.nilI)])
noncomputable def aw48 : List (FuncId × Ctr) := (163,((k163_0.sum (mkCx aw47) 20 400 163 3).ctr.or (((k163_1.sum (mkCx aw47) 20 400 163 3).ctr.or (((k163_2.sum (mkCx aw47) 20 400 163 3).ctr.or (((k163_3.sum (mkCx aw47) 20 400 163 3).ctr.or ((k163_4.sum (mkCx aw47) 20 400 163 3).ctr))))))))) :: aw47
def k23_0 : Lit := lk [.a (.one (iC 1))] (.a (.one (bC 0)))
def k23_1 : Lit := lk [.a (.one (iC 2))] (.a (.one (bC 0)))
def k23_2 : Lit := lk [.a (.one (iC 3))] (.a (.one (bC 0)))
def k23_3 : Lit := lk [.a (.one (iC 4))] (.a (.one (bC 1)))
noncomputable def aw49 : List (FuncId × Ctr) := (23,((k23_0.sum (mkCx aw48) 20 400 23 3).ctr.or (((k23_1.sum (mkCx aw48) 20 400 23 3).ctr.or (((k23_2.sum (mkCx aw48) 20 400 23 3).ctr.or ((k23_3.sum (mkCx aw48) 20 400 23 3).ctr))))))) :: aw48
def k173_0 : Lit := lk [.a (.one (iC 1)),.a (.one (bC 1))] (.tup [.one (iC 80),.one (.nilI)])
def k173_1 : Lit := lk [.a (.one (iC 2)),.a (.one (bC 1))] (.tup [.one (iC 49),.one (.nilI)])
def k173_2 : Lit := lk [.a (.one (iC 3)),.a (.one (bC 1))] (.tup [.one (iC 51),.one (.nilI)])
def k173_3 : Lit := lk [.a (.one (iC 4)),.a (.one (bC 1))] (.tup [.one (iC 55),.one (.nilI)])
noncomputable def aw50 : List (FuncId × Ctr) := (173,((k173_0.sum (mkCx aw49) 20 400 173 3).ctr.or (((k173_1.sum (mkCx aw49) 20 400 173 3).ctr.or (((k173_2.sum (mkCx aw49) 20 400 173 3).ctr.or ((k173_3.sum (mkCx aw49) 20 400 173 3).ctr))))))) :: aw49
def k202_0 : Lit := lk [.a (.one (iC 5))] (.tup [.one (iC 0),.one (.nilI)])
noncomputable def aw51 : List (FuncId × Ctr) := (202,(k202_0.sum (mkCx aw50) 20 400 202 3).ctr) :: aw50
def k141_0 : Lit := lk [.a (.agg [iC 0,iC 0,iC 0,iC 0,iC 0,iC 0,bC 0]),.a (.one (iC 5))] (.a (.agg [iC 0,iC 0,iC 0,iC 0,iC 0,iC 0,bC 1]))
def k141_1 : Lit := lk [.a (.agg [iC 0,iC 0,iC 0,iC 0,iC 0,iC 0,bC 1]),.a (.one (iC 5))] (.a (.agg [iC 0,iC 0,iC 1,iC 0,iC 0,iC 0,bC 1]))
def k141_2 : Lit := lk [.a (.agg [iC 0,iC 0,iC 1,iC 0,iC 0,iC 0,bC 1]),.a (.one (iC 5))] (.a (.agg [iC 0,iC 0,iC 2,iC 0,iC 0,iC 0,bC 1]))
def k141_3 : Lit := lk [.a (.agg [iC 0,iC 0,iC 2,iC 0,iC 0,iC 0,bC 1]),.a (.one (iC 5))] (.a (.agg [iC 0,iC 0,iC 3,iC 0,iC 0,iC 0,bC 1]))
def k141_4 : Lit := lk [.a (.agg [iC 0,iC 0,iC 3,iC 0,iC 0,iC 0,bC 1]),.a (.one (iC 5))] (.a (.agg [iC 0,iC 0,iC 4,iC 0,iC 0,iC 0,bC 1]))
noncomputable def aw52 : List (FuncId × Ctr) := (141,((k141_0.sum (mkCx aw51) 20 400 141 3).ctr.or (((k141_1.sum (mkCx aw51) 20 400 141 3).ctr.or (((k141_2.sum (mkCx aw51) 20 400 141 3).ctr.or (((k141_3.sum (mkCx aw51) 20 400 141 3).ctr.or ((k141_4.sum (mkCx aw51) 20 400 141 3).ctr))))))))) :: aw51
def k146_0 : Lit := lk [.a (.agg [iC 0,iC 0,iC 0,iC 0,iC 0,iC 0,bC 1])] (.a (.one (iC 5461)))
def k146_1 : Lit := lk [.a (.agg [iC 0,iC 0,iC 1,iC 0,iC 0,iC 0,bC 1])] (.a (.one (iC 5461)))
def k146_2 : Lit := lk [.a (.agg [iC 0,iC 0,iC 2,iC 0,iC 0,iC 0,bC 1])] (.a (.one (iC 5461)))
def k146_3 : Lit := lk [.a (.agg [iC 0,iC 0,iC 3,iC 0,iC 0,iC 0,bC 1])] (.a (.one (iC 5461)))
def k146_4 : Lit := lk [.a (.agg [iC 0,iC 0,iC 4,iC 0,iC 0,iC 0,bC 1])] (.a (.one (iC 5461)))
noncomputable def aw53 : List (FuncId × Ctr) := (146,((k146_0.sum (mkCx aw52) 20 400 146 3).ctr.or (((k146_1.sum (mkCx aw52) 20 400 146 3).ctr.or (((k146_2.sum (mkCx aw52) 20 400 146 3).ctr.or (((k146_3.sum (mkCx aw52) 20 400 146 3).ctr.or ((k146_4.sum (mkCx aw52) 20 400 146 3).ctr))))))))) :: aw52
def k145_0 : Lit := lk [.a (.agg [iC 2000,iC 10923,iC 6000,iC 0,iC 1,iC 2,iC 1]),.a (.agg [iC 0,iC 0,iC 0,bC 0,bC 0,bC 0,iC 0]),.a (.agg [iC 2,iC 5461,iC 0,bC 0,bC 1,bC 0])] (.tup [.agg [iC 0,iC 0,iC 0,bC 0,bC 0,bC 0,iC 0],.agg [iC 1,iC 5461,bC 1,bC 0],.one (.nilI)])
noncomputable def aw54 : List (FuncId × Ctr) := (145,(k145_0.sum (mkCx aw53) 20 400 145 3).ctr) :: aw53
noncomputable abbrev awT : List (FuncId × Ctr) := aw54
theorem k208_0_check : k208_0.check (mkCx aw0) 20 400 208 3 = true := by decide +kernel
theorem k254_3_check : k254_3.check (mkCx aw1) 20 400 254 3 = true := by decide +kernel
theorem k254_7_check : k254_7.check (mkCx aw1) 20 400 254 3 = true := by decide +kernel
theorem k254_11_check : k254_11.check (mkCx aw1) 20 400 254 3 = true := by decide +kernel
theorem k254_15_check : k254_15.check (mkCx aw1) 20 400 254 3 = true := by decide +kernel
theorem k219_1_check : k219_1.check (mkCx aw3) 20 400 219 3 = true := by decide +kernel
theorem k212_1_check : k212_1.check (mkCx aw5) 20 400 212 3 = true := by decide +kernel
theorem k212_5_check : k212_5.check (mkCx aw5) 20 400 212 3 = true := by decide +kernel
theorem k212_9_check : k212_9.check (mkCx aw5) 20 400 212 3 = true := by decide +kernel
theorem k212_13_check : k212_13.check (mkCx aw5) 20 400 212 3 = true := by decide +kernel
theorem k212_17_check : k212_17.check (mkCx aw5) 20 400 212 3 = true := by decide +kernel
theorem k235_0_check : k235_0.check (mkCx aw8) 20 400 235 3 = true := by decide +kernel
theorem k281_0_check : k281_0.check (mkCx aw12) 20 400 281 3 = true := by decide +kernel
theorem k275_0_check : k275_0.check (mkCx aw16) 20 400 275 3 = true := by decide +kernel
theorem k234_0_check : k234_0.check (mkCx aw19) 20 400 234 3 = true := by decide +kernel
theorem k201_3_check : k201_3.check (mkCx aw20) 20 400 201 3 = true := by decide +kernel
theorem k200_0_check : k200_0.check (mkCx aw22) 20 400 200 3 = true := by decide +kernel
theorem k144_0_check : k144_0.check (mkCx aw24) 20 400 144 3 = true := by decide +kernel
theorem k196_0_check : k196_0.check (mkCx aw27) 20 400 196 3 = true := by decide +kernel
theorem k252_0_check : k252_0.check (mkCx aw30) 20 400 252 3 = true := by decide +kernel
theorem k248_1_check : k248_1.check (mkCx aw31) 20 400 248 3 = true := by decide +kernel
theorem k262_2_check : k262_2.check (mkCx aw33) 20 400 262 3 = true := by decide +kernel
theorem k220_0_check : k220_0.check (mkCx aw37) 20 400 220 3 = true := by decide +kernel
theorem k207_0_check : k207_0.check (mkCx aw41) 20 400 207 3 = true := by decide +kernel
theorem k97_2_check : k97_2.check (mkCx aw43) 20 400 97 3 = true := by decide +kernel
theorem k143_0_check : k143_0.check (mkCx aw45) 20 400 143 3 = true := by decide +kernel
theorem k163_2_check : k163_2.check (mkCx aw47) 20 400 163 3 = true := by decide +kernel
theorem k23_1_check : k23_1.check (mkCx aw48) 20 400 23 3 = true := by decide +kernel
theorem k173_1_check : k173_1.check (mkCx aw49) 20 400 173 3 = true := by decide +kernel
theorem k141_0_check : k141_0.check (mkCx aw51) 20 400 141 3 = true := by decide +kernel
theorem k141_4_check : k141_4.check (mkCx aw51) 20 400 141 3 = true := by decide +kernel
theorem k146_3_check : k146_3.check (mkCx aw52) 20 400 146 3 = true := by decide +kernel
theorem k254_0_check : k254_0.check (mkCx aw1) 20 400 254 3 = true := by decide +kernel
theorem k254_4_check : k254_4.check (mkCx aw1) 20 400 254 3 = true := by decide +kernel
theorem k254_8_check : k254_8.check (mkCx aw1) 20 400 254 3 = true := by decide +kernel
theorem k254_12_check : k254_12.check (mkCx aw1) 20 400 254 3 = true := by decide +kernel
theorem k216_0_check : k216_0.check (mkCx aw2) 20 400 216 3 = true := by decide +kernel
theorem k219_2_check : k219_2.check (mkCx aw3) 20 400 219 3 = true := by decide +kernel
theorem k212_2_check : k212_2.check (mkCx aw5) 20 400 212 3 = true := by decide +kernel
theorem k212_6_check : k212_6.check (mkCx aw5) 20 400 212 3 = true := by decide +kernel
theorem k212_10_check : k212_10.check (mkCx aw5) 20 400 212 3 = true := by decide +kernel
theorem k212_14_check : k212_14.check (mkCx aw5) 20 400 212 3 = true := by decide +kernel
theorem k251_0_check : k251_0.check (mkCx aw6) 20 400 251 3 = true := by decide +kernel
theorem k142_0_check : k142_0.check (mkCx aw9) 20 400 142 3 = true := by decide +kernel
theorem k236_0_check : k236_0.check (mkCx aw13) 20 400 236 3 = true := by decide +kernel
theorem k275_1_check : k275_1.check (mkCx aw16) 20 400 275 3 = true := by decide +kernel
theorem k201_0_check : k201_0.check (mkCx aw20) 20 400 201 3 = true := by decide +kernel
theorem k201_4_check : k201_4.check (mkCx aw20) 20 400 201 3 = true := by decide +kernel
theorem k200_1_check : k200_1.check (mkCx aw22) 20 400 200 3 = true := by decide +kernel
theorem k197_0_check : k197_0.check (mkCx aw25) 20 400 197 3 = true := by decide +kernel
theorem k138_0_check : k138_0.check (mkCx aw28) 20 400 138 3 = true := by decide +kernel
theorem k252_1_check : k252_1.check (mkCx aw30) 20 400 252 3 = true := by decide +kernel
theorem k261_0_check : k261_0.check (mkCx aw32) 20 400 261 3 = true := by decide +kernel
theorem k217_0_check : k217_0.check (mkCx aw34) 20 400 217 3 = true := by decide +kernel
theorem k156_0_check : k156_0.check (mkCx aw38) 20 400 156 3 = true := by decide +kernel
theorem k206_0_check : k206_0.check (mkCx aw42) 20 400 206 3 = true := by decide +kernel
theorem k97_3_check : k97_3.check (mkCx aw43) 20 400 97 3 = true := by decide +kernel
theorem k237_0_check : k237_0.check (mkCx aw46) 20 400 237 3 = true := by decide +kernel
theorem k163_3_check : k163_3.check (mkCx aw47) 20 400 163 3 = true := by decide +kernel
theorem k23_2_check : k23_2.check (mkCx aw48) 20 400 23 3 = true := by decide +kernel
theorem k173_2_check : k173_2.check (mkCx aw49) 20 400 173 3 = true := by decide +kernel
theorem k141_1_check : k141_1.check (mkCx aw51) 20 400 141 3 = true := by decide +kernel
theorem k146_0_check : k146_0.check (mkCx aw52) 20 400 146 3 = true := by decide +kernel
theorem k146_4_check : k146_4.check (mkCx aw52) 20 400 146 3 = true := by decide +kernel
theorem k254_1_check : k254_1.check (mkCx aw1) 20 400 254 3 = true := by decide +kernel
theorem k254_5_check : k254_5.check (mkCx aw1) 20 400 254 3 = true := by decide +kernel
theorem k254_9_check : k254_9.check (mkCx aw1) 20 400 254 3 = true := by decide +kernel
theorem k254_13_check : k254_13.check (mkCx aw1) 20 400 254 3 = true := by decide +kernel
theorem k216_1_check : k216_1.check (mkCx aw2) 20 400 216 3 = true := by decide +kernel
theorem k155_0_check : k155_0.check (mkCx aw4) 20 400 155 3 = true := by decide +kernel
theorem k212_3_check : k212_3.check (mkCx aw5) 20 400 212 3 = true := by decide +kernel
theorem k212_7_check : k212_7.check (mkCx aw5) 20 400 212 3 = true := by decide +kernel
theorem k212_11_check : k212_11.check (mkCx aw5) 20 400 212 3 = true := by decide +kernel
theorem k212_15_check : k212_15.check (mkCx aw5) 20 400 212 3 = true := by decide +kernel
theorem k251_1_check : k251_1.check (mkCx aw6) 20 400 251 3 = true := by decide +kernel
theorem k280_0_check : k280_0.check (mkCx aw10) 20 400 280 3 = true := by decide +kernel
theorem k231_0_check : k231_0.check (mkCx aw14) 20 400 231 3 = true := by decide +kernel
theorem k272_0_check : k272_0.check (mkCx aw17) 20 400 272 3 = true := by decide +kernel
theorem k201_1_check : k201_1.check (mkCx aw20) 20 400 201 3 = true := by decide +kernel
theorem k201_5_check : k201_5.check (mkCx aw20) 20 400 201 3 = true := by decide +kernel
theorem k140_0_check : k140_0.check (mkCx aw23) 20 400 140 3 = true := by decide +kernel
theorem k197_1_check : k197_1.check (mkCx aw25) 20 400 197 3 = true := by decide +kernel
theorem k138_1_check : k138_1.check (mkCx aw28) 20 400 138 3 = true := by decide +kernel
theorem k252_2_check : k252_2.check (mkCx aw30) 20 400 252 3 = true := by decide +kernel
theorem k262_0_check : k262_0.check (mkCx aw33) 20 400 262 3 = true := by decide +kernel
theorem k157_0_check : k157_0.check (mkCx aw35) 20 400 157 3 = true := by decide +kernel
theorem k24_0_check : k24_0.check (mkCx aw39) 20 400 24 3 = true := by decide +kernel
theorem k97_0_check : k97_0.check (mkCx aw43) 20 400 97 3 = true := by decide +kernel
theorem k97_4_check : k97_4.check (mkCx aw43) 20 400 97 3 = true := by decide +kernel
theorem k163_0_check : k163_0.check (mkCx aw47) 20 400 163 3 = true := by decide +kernel
theorem k163_4_check : k163_4.check (mkCx aw47) 20 400 163 3 = true := by decide +kernel
theorem k23_3_check : k23_3.check (mkCx aw48) 20 400 23 3 = true := by decide +kernel
theorem k173_3_check : k173_3.check (mkCx aw49) 20 400 173 3 = true := by decide +kernel
theorem k141_2_check : k141_2.check (mkCx aw51) 20 400 141 3 = true := by decide +kernel
theorem k146_1_check : k146_1.check (mkCx aw52) 20 400 146 3 = true := by decide +kernel
theorem k145_0_check : k145_0.check (mkCx aw53) 20 400 145 3 = true := by decide +kernel
theorem k254_2_check : k254_2.check (mkCx aw1) 20 400 254 3 = true := by decide +kernel
theorem k254_6_check : k254_6.check (mkCx aw1) 20 400 254 3 = true := by decide +kernel
theorem k254_10_check : k254_10.check (mkCx aw1) 20 400 254 3 = true := by decide +kernel
theorem k254_14_check : k254_14.check (mkCx aw1) 20 400 254 3 = true := by decide +kernel
theorem k219_0_check : k219_0.check (mkCx aw3) 20 400 219 3 = true := by decide +kernel
theorem k212_0_check : k212_0.check (mkCx aw5) 20 400 212 3 = true := by decide +kernel
theorem k212_4_check : k212_4.check (mkCx aw5) 20 400 212 3 = true := by decide +kernel
theorem k212_8_check : k212_8.check (mkCx aw5) 20 400 212 3 = true := by decide +kernel
theorem k212_12_check : k212_12.check (mkCx aw5) 20 400 212 3 = true := by decide +kernel
theorem k212_16_check : k212_16.check (mkCx aw5) 20 400 212 3 = true := by decide +kernel
theorem k153_0_check : k153_0.check (mkCx aw7) 20 400 153 3 = true := by decide +kernel
theorem k255_0_check : k255_0.check (mkCx aw11) 20 400 255 3 = true := by decide +kernel
theorem k268_0_check : k268_0.check (mkCx aw15) 20 400 268 3 = true := by decide +kernel
theorem k274_0_check : k274_0.check (mkCx aw18) 20 400 274 3 = true := by decide +kernel
theorem k201_2_check : k201_2.check (mkCx aw20) 20 400 201 3 = true := by decide +kernel
theorem k199_0_check : k199_0.check (mkCx aw21) 20 400 199 3 = true := by decide +kernel
theorem k140_1_check : k140_1.check (mkCx aw23) 20 400 140 3 = true := by decide +kernel
theorem k198_0_check : k198_0.check (mkCx aw26) 20 400 198 3 = true := by decide +kernel
theorem k250_0_check : k250_0.check (mkCx aw29) 20 400 250 3 = true := by decide +kernel
theorem k248_0_check : k248_0.check (mkCx aw31) 20 400 248 3 = true := by decide +kernel
theorem k262_1_check : k262_1.check (mkCx aw33) 20 400 262 3 = true := by decide +kernel
theorem k158_0_check : k158_0.check (mkCx aw36) 20 400 158 3 = true := by decide +kernel
theorem k154_0_check : k154_0.check (mkCx aw40) 20 400 154 3 = true := by decide +kernel
theorem k97_1_check : k97_1.check (mkCx aw43) 20 400 97 3 = true := by decide +kernel
theorem k205_0_check : k205_0.check (mkCx aw44) 20 400 205 3 = true := by decide +kernel
theorem k163_1_check : k163_1.check (mkCx aw47) 20 400 163 3 = true := by decide +kernel
theorem k23_0_check : k23_0.check (mkCx aw48) 20 400 23 3 = true := by decide +kernel
theorem k173_0_check : k173_0.check (mkCx aw49) 20 400 173 3 = true := by decide +kernel
theorem k202_0_check : k202_0.check (mkCx aw50) 20 400 202 3 = true := by decide +kernel
theorem k141_3_check : k141_3.check (mkCx aw51) 20 400 141 3 = true := by decide +kernel
theorem k146_2_check : k146_2.check (mkCx aw52) 20 400 146 3 = true := by decide +kernel
theorem aw0_ok : TbOk aw0 := fun _=>tbl_nil (C := mkCx aw0) rfl
theorem aw_or {l : List (FuncId × Ctr)} {f : FuncId} {a b : Ctr} (ha : ∀ O I X E,CtrOk (mkCx l) O I X E f a) (hb : ∀ O I X E,CtrOk (mkCx l) O I X E f b) : ∀ O I X E,CtrOk (mkCx l) O I X E f (a.or b) := fun O I X E=>(ha O I X E).or (hb O I X E)
theorem aw_lit {l : List (FuncId × Ctr)} (h : TbOk l) {f : FuncId} {L : Lit} (hc : L.check (mkCx l) 20 400 f 3 = true) : ∀ O I X E,CtrOk (mkCx l) O I X E f (L.sum (mkCx l) 20 400 f 3).ctr := fun O=>Lit.ok (C := mkCx l) (O := O) cx_mix cx_name (h O) (mkCx_glob l) hc
theorem aw_cons {l : List (FuncId × Ctr)} (h : TbOk l) {f : FuncId} {c : Ctr} (hc : ∀ O I X E,CtrOk (mkCx l) O I X E f c) : TbOk ((f,c) :: l) := fun O=>tbl_cons (h O) (hc O)
theorem aw1_ok : TbOk aw1 := aw_cons aw0_ok (aw_lit aw0_ok k208_0_check)
theorem aw2_ok : TbOk aw2 := aw_cons aw1_ok (aw_or (aw_lit aw1_ok k254_0_check) (aw_or (aw_lit aw1_ok k254_1_check) (aw_or (aw_lit aw1_ok k254_2_check) (aw_or (aw_lit aw1_ok k254_3_check) (aw_or (aw_lit aw1_ok k254_4_check) (aw_or (aw_lit aw1_ok k254_5_check) (aw_or (aw_lit aw1_ok k254_6_check) (aw_or (aw_lit aw1_ok k254_7_check) (aw_or (aw_lit aw1_ok k254_8_check) (aw_or (aw_lit aw1_ok k254_9_check) (aw_or (aw_lit aw1_ok k254_10_check) (aw_or (aw_lit aw1_ok k254_11_check) (aw_or (aw_lit aw1_ok k254_12_check) (aw_or (aw_lit aw1_ok k254_13_check) (aw_or (aw_lit aw1_ok k254_14_check) (aw_lit aw1_ok k254_15_check))))))))))))))))
theorem aw3_ok : TbOk aw3 := aw_cons aw2_ok (aw_or (aw_lit aw2_ok k216_0_check) (aw_lit aw2_ok k216_1_check))
theorem aw4_ok : TbOk aw4 := aw_cons aw3_ok (aw_or (aw_lit aw3_ok k219_0_check) (aw_or (aw_lit aw3_ok k219_1_check) (aw_lit aw3_ok k219_2_check)))
theorem aw5_ok : TbOk aw5 := aw_cons aw4_ok (aw_lit aw4_ok k155_0_check)
theorem aw6_ok : TbOk aw6 := aw_cons aw5_ok (aw_or (aw_lit aw5_ok k212_0_check) (aw_or (aw_lit aw5_ok k212_1_check) (aw_or (aw_lit aw5_ok k212_2_check) (aw_or (aw_lit aw5_ok k212_3_check) (aw_or (aw_lit aw5_ok k212_4_check) (aw_or (aw_lit aw5_ok k212_5_check) (aw_or (aw_lit aw5_ok k212_6_check) (aw_or (aw_lit aw5_ok k212_7_check) (aw_or (aw_lit aw5_ok k212_8_check) (aw_or (aw_lit aw5_ok k212_9_check) (aw_or (aw_lit aw5_ok k212_10_check) (aw_or (aw_lit aw5_ok k212_11_check) (aw_or (aw_lit aw5_ok k212_12_check) (aw_or (aw_lit aw5_ok k212_13_check) (aw_or (aw_lit aw5_ok k212_14_check) (aw_or (aw_lit aw5_ok k212_15_check) (aw_or (aw_lit aw5_ok k212_16_check) (aw_lit aw5_ok k212_17_check))))))))))))))))))
theorem aw7_ok : TbOk aw7 := aw_cons aw6_ok (aw_or (aw_lit aw6_ok k251_0_check) (aw_lit aw6_ok k251_1_check))
theorem aw8_ok : TbOk aw8 := aw_cons aw7_ok (aw_lit aw7_ok k153_0_check)
theorem aw9_ok : TbOk aw9 := aw_cons aw8_ok (aw_lit aw8_ok k235_0_check)
theorem aw10_ok : TbOk aw10 := aw_cons aw9_ok (aw_lit aw9_ok k142_0_check)
theorem aw11_ok : TbOk aw11 := aw_cons aw10_ok (aw_lit aw10_ok k280_0_check)
theorem aw12_ok : TbOk aw12 := aw_cons aw11_ok (aw_lit aw11_ok k255_0_check)
theorem aw13_ok : TbOk aw13 := aw_cons aw12_ok (aw_lit aw12_ok k281_0_check)
theorem aw14_ok : TbOk aw14 := aw_cons aw13_ok (aw_lit aw13_ok k236_0_check)
theorem aw15_ok : TbOk aw15 := aw_cons aw14_ok (aw_lit aw14_ok k231_0_check)
theorem aw16_ok : TbOk aw16 := aw_cons aw15_ok (aw_lit aw15_ok k268_0_check)
theorem aw17_ok : TbOk aw17 := aw_cons aw16_ok (aw_or (aw_lit aw16_ok k275_0_check) (aw_lit aw16_ok k275_1_check))
theorem aw18_ok : TbOk aw18 := aw_cons aw17_ok (aw_lit aw17_ok k272_0_check)
theorem aw19_ok : TbOk aw19 := aw_cons aw18_ok (aw_lit aw18_ok k274_0_check)
theorem aw20_ok : TbOk aw20 := aw_cons aw19_ok (aw_lit aw19_ok k234_0_check)
theorem aw21_ok : TbOk aw21 := aw_cons aw20_ok (aw_or (aw_lit aw20_ok k201_0_check) (aw_or (aw_lit aw20_ok k201_1_check) (aw_or (aw_lit aw20_ok k201_2_check) (aw_or (aw_lit aw20_ok k201_3_check) (aw_or (aw_lit aw20_ok k201_4_check) (aw_lit aw20_ok k201_5_check))))))
theorem aw22_ok : TbOk aw22 := aw_cons aw21_ok (aw_lit aw21_ok k199_0_check)
theorem aw23_ok : TbOk aw23 := aw_cons aw22_ok (aw_or (aw_lit aw22_ok k200_0_check) (aw_lit aw22_ok k200_1_check))
theorem aw24_ok : TbOk aw24 := aw_cons aw23_ok (aw_or (aw_lit aw23_ok k140_0_check) (aw_lit aw23_ok k140_1_check))
theorem aw25_ok : TbOk aw25 := aw_cons aw24_ok (aw_lit aw24_ok k144_0_check)
theorem aw26_ok : TbOk aw26 := aw_cons aw25_ok (aw_or (aw_lit aw25_ok k197_0_check) (aw_lit aw25_ok k197_1_check))
theorem aw27_ok : TbOk aw27 := aw_cons aw26_ok (aw_lit aw26_ok k198_0_check)
theorem aw28_ok : TbOk aw28 := aw_cons aw27_ok (aw_lit aw27_ok k196_0_check)
theorem aw29_ok : TbOk aw29 := aw_cons aw28_ok (aw_or (aw_lit aw28_ok k138_0_check) (aw_lit aw28_ok k138_1_check))
theorem aw30_ok : TbOk aw30 := aw_cons aw29_ok (aw_lit aw29_ok k250_0_check)
theorem aw31_ok : TbOk aw31 := aw_cons aw30_ok (aw_or (aw_lit aw30_ok k252_0_check) (aw_or (aw_lit aw30_ok k252_1_check) (aw_lit aw30_ok k252_2_check)))
theorem aw32_ok : TbOk aw32 := aw_cons aw31_ok (aw_or (aw_lit aw31_ok k248_0_check) (aw_lit aw31_ok k248_1_check))
theorem aw33_ok : TbOk aw33 := aw_cons aw32_ok (aw_lit aw32_ok k261_0_check)
theorem aw34_ok : TbOk aw34 := aw_cons aw33_ok (aw_or (aw_lit aw33_ok k262_0_check) (aw_or (aw_lit aw33_ok k262_1_check) (aw_lit aw33_ok k262_2_check)))
theorem aw35_ok : TbOk aw35 := aw_cons aw34_ok (aw_lit aw34_ok k217_0_check)
theorem aw36_ok : TbOk aw36 := aw_cons aw35_ok (aw_lit aw35_ok k157_0_check)
theorem aw37_ok : TbOk aw37 := aw_cons aw36_ok (aw_lit aw36_ok k158_0_check)
theorem aw38_ok : TbOk aw38 := aw_cons aw37_ok (aw_lit aw37_ok k220_0_check)
theorem aw39_ok : TbOk aw39 := aw_cons aw38_ok (aw_lit aw38_ok k156_0_check)
theorem aw40_ok : TbOk aw40 := aw_cons aw39_ok (aw_lit aw39_ok k24_0_check)
theorem aw41_ok : TbOk aw41 := aw_cons aw40_ok (aw_lit aw40_ok k154_0_check)
theorem aw42_ok : TbOk aw42 := aw_cons aw41_ok (aw_lit aw41_ok k207_0_check)
theorem aw43_ok : TbOk aw43 := aw_cons aw42_ok (aw_lit aw42_ok k206_0_check)
theorem aw44_ok : TbOk aw44 := aw_cons aw43_ok (aw_or (aw_lit aw43_ok k97_0_check) (aw_or (aw_lit aw43_ok k97_1_check) (aw_or (aw_lit aw43_ok k97_2_check) (aw_or (aw_lit aw43_ok k97_3_check) (aw_lit aw43_ok k97_4_check)))))
theorem aw45_ok : TbOk aw45 := aw_cons aw44_ok (aw_lit aw44_ok k205_0_check)
theorem aw46_ok : TbOk aw46 := aw_cons aw45_ok (aw_lit aw45_ok k143_0_check)
theorem aw47_ok : TbOk aw47 := aw_cons aw46_ok (aw_lit aw46_ok k237_0_check)
theorem aw48_ok : TbOk aw48 := aw_cons aw47_ok (aw_or (aw_lit aw47_ok k163_0_check) (aw_or (aw_lit aw47_ok k163_1_check) (aw_or (aw_lit aw47_ok k163_2_check) (aw_or (aw_lit aw47_ok k163_3_check) (aw_lit aw47_ok k163_4_check)))))
theorem aw49_ok : TbOk aw49 := aw_cons aw48_ok (aw_or (aw_lit aw48_ok k23_0_check) (aw_or (aw_lit aw48_ok k23_1_check) (aw_or (aw_lit aw48_ok k23_2_check) (aw_lit aw48_ok k23_3_check))))
theorem aw50_ok : TbOk aw50 := aw_cons aw49_ok (aw_or (aw_lit aw49_ok k173_0_check) (aw_or (aw_lit aw49_ok k173_1_check) (aw_or (aw_lit aw49_ok k173_2_check) (aw_lit aw49_ok k173_3_check))))
theorem aw51_ok : TbOk aw51 := aw_cons aw50_ok (aw_lit aw50_ok k202_0_check)
theorem aw52_ok : TbOk aw52 := aw_cons aw51_ok (aw_or (aw_lit aw51_ok k141_0_check) (aw_or (aw_lit aw51_ok k141_1_check) (aw_or (aw_lit aw51_ok k141_2_check) (aw_or (aw_lit aw51_ok k141_3_check) (aw_lit aw51_ok k141_4_check)))))
theorem aw53_ok : TbOk aw53 := aw_cons aw52_ok (aw_or (aw_lit aw52_ok k146_0_check) (aw_or (aw_lit aw52_ok k146_1_check) (aw_or (aw_lit aw52_ok k146_2_check) (aw_or (aw_lit aw52_ok k146_3_check) (aw_lit aw52_ok k146_4_check)))))
theorem aw54_ok : TbOk aw54 := aw_cons aw53_ok (aw_lit aw53_ok k145_0_check)
theorem awT_ok : TbOk awT := aw54_ok
end Go.Proofs.YtbegodiligmphaaGreatDoor.Sy
namespace Go.Proofs.YtbegodiligmphaaGreatDoor
open Go Go.ChangeShapes Go.WideShapes Go.ChangeAt Go.WideMaps Go.WideElems Go.RowKit
theorem own : ownKnob Tryz.prog.godebug = none := by kernel_rfl
theorem gEdge : Tryz.prog.globalNamed "commutator/hall.edge" = some 0 := by kernel_rfl
theorem gWords : Tryz.prog.globalNamed "commutator/device.statusWords" = some 1 := by kernel_rfl
theorem gCodes : Tryz.prog.globalNamed "commutator/hall.codes" = some 2 := by kernel_rfl
theorem glob3 : 3 ≤ Tryz.prog.globals.size := of_decide_eq_true (by kernel_rfl)
def tabT (i : Nat) : TypeId := match i with
 | 0=>350
 | 1=>379
 | _=>381
theorem beg0 : (((begin Tryz.prog (fun _ _=>0) default).world.heap[0]?).bind Obj.row?).map (fun p=>(p.1.size,p.2)) = some (7,tabT 0) := by kernel_rfl
theorem beg1 : (((begin Tryz.prog (fun _ _=>0) default).world.heap[1]?).bind Obj.row?).map (fun p=>(p.1.size,p.2)) = some (8,tabT 1) := by kernel_rfl
theorem beg2 : (((begin Tryz.prog (fun _ _=>0) default).world.heap[2]?).bind Obj.row?).map (fun p=>(p.1.size,p.2)) = some (6,tabT 2) := by kernel_rfl
theorem cells_of {W : World} {nm : String} {g N : Nat} {cs0 : Array Value} {xs : List (DataW Unit × List MemPlace)} {m1 : Nat} (hg0 : Tryz.prog.globalNamed nm = some g) (hv0 : World.var? Tryz.prog W nm = some cs0) (hn3 : xs.length = N)
  (hel : ∀ i,i < N → DataW.trod (fun _=>()) Tryz.prog W 0 (fun _=>true) false m1 3 (List.take 1 (List.drop i cs0.toList)) = xs[i]?) :
  ∀ (i : Nat) (n : Int),i < N → (xs.map (fun x=>x.1))[i]? = some (.lit (.int .i64 n)) → W.cell? ⟨g,i,none⟩ = some (.int .i64 n) := by
 intro i n hi hn
 have h := hel i hi
 have hi' : i < xs.length := by omega
 rw [List.getElem?_eq_getElem hi'] at h
 rw [List.getElem?_map,List.getElem?_eq_getElem hi'] at hn
 simp only [Option.map_some,Option.some.injEq] at hn
 obtain ⟨k,e1,e2,_⟩ := DataW.trod_int Tryz.underlying3 h
 rw [e2] at hn
 have hk : k = n := by simpa using hn
 subst hk
 have hc : cs0[i]? = some (.int .i64 k) := by
  have h2 : (List.take 1 (List.drop i cs0.toList))[0]? = some (.int .i64 k) := by rw [e1]; rfl
  rw [List.getElem?_take_of_lt (by decide),List.getElem?_drop] at h2
  simpa using h2
 have := World.var?_cell hg0 hv0 i
 rw [hc] at this
 exact this
theorem shaped_tab {W : World} (h : W.ShapedOpen Tryz.prog) {g n : Nat} {t : TypeId} (hg : g < 3) (hb : (((begin Tryz.prog (fun _ _=>0) default).world.heap[g]?).bind Obj.row?).map (fun p=>(p.1.size,p.2)) = some (n,t)) : ∃ cs,W.heap[g]? = some (.cells cs t (0,0)) ∧ cs.size = n := by
 obtain ⟨⟨zero,t'⟩,e,e2⟩ := Option.map_eq_some_iff.1 hb
 injection e2 with e2 e3
 subst e3
 obtain ⟨cs,h1,h2,_⟩ := h.1 g zero t' (Nat.lt_of_lt_of_le hg glob3) e
 exact ⟨cs,h1,h2.trans e2⟩
theorem tab_of {W : World} {g : Nat} {cs : Array Value} {t : TypeId} {l : List Int} (h : W.heap[g]? = some (.cells cs t (0,0))) (hl : cs.size = l.length) (hc : ∀ i n,l[i]? = some n → W.cell? ⟨g,i,none⟩ = some (.int .i64 n)) : W.heap[g]? = some (.cells (Sy.numV l).toArray t (0,0)) := by
 have : cs = (Sy.numV l).toArray := by
  refine Array.ext_getElem? fun i=>?_
  have e := cell_of_row W g i cs t (0,0) h
  cases hn : l[i]? with
  | some n =>
   rw [hc i n hn] at e
   rw [← e,List.getElem?_toArray,Sy.numV,List.getElem?_map,hn]; rfl
  | none =>
   have hi : l.length ≤ i := by simpa using hn
   rw [Array.getElem?_eq_none (by omega),List.getElem?_toArray,Sy.numV,List.getElem?_map,hn]; rfl
 rw [h,this]
theorem ty0 : (Tryz.prog.globals[0]?).map (·.type) = some 350 := by kernel_rfl
theorem ty1 : (Tryz.prog.globals[1]?).map (·.type) = some 379 := by kernel_rfl
theorem ty2 : (Tryz.prog.globals[2]?).map (·.type) = some 381 := by kernel_rfl
def laidC3 {H : Type} : List (String × DataW H) := [("commutator/device.statusWords",Rows.laid_commutator_device_statusWords),("commutator/hall.edge",Rows.laid_commutator_hall_edge),("commutator/hall.codes",Rows.laid_commutator_hall_codes)]
theorem of_laid3 {W : World} (h : laidMetH Tryz.prog laidC3 W) : ∀ g,g < 3 → ∀ i n,(Sy.tabN g)[i]? = some n → W.cell? ⟨g,i,none⟩ = some (.int .i64 n) := by
 rw [MakeChecks.laidMetH_plain _ _ _ (by kernel_rfl)] at h
 obtain ⟨ps,⟨g0,t0,cs0,f0,p0,q0,hg0,ht0,hv0,hd0,⟨g1,t1,cs1,f1,p1,q1,hg1,ht1,hv1,hd1,⟨g2,t2,cs2,f2,p2,q2,hg2,ht2,hv2,hd2,_,_⟩,_⟩,_⟩,_,_⟩ := h
 obtain rfl := Option.some.inj (gWords.symm.trans hg0)
 obtain rfl := Option.some.inj (ty1.symm.trans ht0)
 obtain rfl := Option.some.inj (gEdge.symm.trans hg1)
 obtain rfl := Option.some.inj (ty0.symm.trans ht1)
 obtain rfl := Option.some.inj (gCodes.symm.trans hg2)
 obtain rfl := Option.some.inj (ty2.symm.trans ht2)
 have c3 : Tryz.prog.cellsOf 3 = 1 := by kernel_rfl
 have key1 : ∀ i n,(Sy.tabN 1)[i]? = some n → W.cell? ⟨1,i,none⟩ = some (.int .i64 n) := by
  obtain ⟨xs,m1,rfl,hx1,hlen,hn3,hel⟩ := DataW.trod_array Tryz.underlying379 hd0
  simp only [c3,Nat.mul_one] at hel
  have hx : xs.map (fun x=>x.1) = (Sy.tabN 1).map fun n=>.lit (.int .i64 n) := by
   simp only [Prod.mk.injEq,Rows.laid_commutator_device_statusWords,DataW.agg.injEq] at hx1
   exact hx1.1.symm
  intro i n hn
  have hi : i < 8 := by have := (List.getElem?_eq_some_iff.1 hn).1; simpa [Sy.tabN] using this
  refine cells_of hg0 hv0 hn3 hel i n hi ?_
  rw [hx,List.getElem?_map,hn]; rfl
 have key0 : ∀ i n,(Sy.tabN 0)[i]? = some n → W.cell? ⟨0,i,none⟩ = some (.int .i64 n) := by
  obtain ⟨xs,m1,rfl,hx1,hlen,hn3,hel⟩ := DataW.trod_array Tryz.underlying350 hd1
  simp only [c3,Nat.mul_one] at hel
  have hx : xs.map (fun x=>x.1) = (Sy.tabN 0).map fun n=>.lit (.int .i64 n) := by
   simp only [Prod.mk.injEq,Rows.laid_commutator_hall_edge,DataW.agg.injEq] at hx1
   exact hx1.1.symm
  intro i n hn
  have hi : i < 7 := by have := (List.getElem?_eq_some_iff.1 hn).1; simpa [Sy.tabN] using this
  refine cells_of hg1 hv1 hn3 hel i n hi ?_
  rw [hx,List.getElem?_map,hn]; rfl
 have key2 : ∀ i n,(Sy.tabN 2)[i]? = some n → W.cell? ⟨2,i,none⟩ = some (.int .i64 n) := by
  obtain ⟨xs,m1,rfl,hx1,hlen,hn3,hel⟩ := DataW.trod_array Tryz.underlying381 hd2
  simp only [c3,Nat.mul_one] at hel
  have hx : xs.map (fun x=>x.1) = (Sy.tabN 2).map fun n=>.lit (.int .i64 n) := by
   simp only [Prod.mk.injEq,Rows.laid_commutator_hall_codes,DataW.agg.injEq] at hx1
   exact hx1.1.symm
  intro i n hn
  have hi : i < 6 := by have := (List.getElem?_eq_some_iff.1 hn).1; simpa [Sy.tabN] using this
  refine cells_of hg2 hv2 hn3 hel i n hi ?_
  rw [hx,List.getElem?_map,hn]; rfl
 intro g hg
 match g,hg with
 | 0,_=>exact key0
 | 1,_=>exact key1
 | 2,_=>exact key2
theorem tabs_of {W : World} (h : laidMetH Tryz.prog laidC3 W) (hs : W.ShapedOpen Tryz.prog) : Sy.Tabs tabT W := by
 have key := of_laid3 h
 have at_ : ∀ i,i < 3 → W.heap[i]? = some (.cells (Sy.numV (Sy.tabN i)).toArray (tabT i) (0,0)) := fun i hi=>by
  match i,hi with
  | 0,hi=>obtain ⟨cs,h1,h2⟩ := shaped_tab hs hi beg0; exact tab_of h1 h2 (key 0 hi)
  | 1,hi=>obtain ⟨cs,h1,h2⟩ := shaped_tab hs hi beg1; exact tab_of h1 h2 (key 1 hi)
  | 2,hi=>obtain ⟨cs,h1,h2⟩ := shaped_tab hs hi beg2; exact tab_of h1 h2 (key 2 hi)
 refine ⟨at_,?_⟩
 obtain ⟨h,_⟩ := Array.getElem?_eq_some_iff.1 (at_ 2 (by decide))
 omega
end Go.Proofs.YtbegodiligmphaaGreatDoor
namespace Go.Proofs.YtbegodiligmphaaGreatDoor
open Go Go.ChangeShapes Go.WideShapes Go.ChangeAt Go.WideMaps Go.WideElems Go.RowKit
theorem returnsInHanded_shaped {H : Type} {enc : TypeId × Value → H} {a : Assume} {C : Checked} {os : Os} {f : FuncId} {fn : Func} {s : ChangeSpec} {conds : List PathCond} {apart fresh handsOn again : Bool} {X : World → Array Value → Prop}
  (hX : ∀ (w w' : World) (args : Array Value),w.heap = w'.heap → X w args → X w' args)
  (own : ownKnob C.prog.godebug = none) (started : os.Started) (noInit : C.prog.inits.idxOf? f = none) (hfn : C.prog.funcs[f]? = some fn)
  (witness : ∃ (w : World) (tape : Tape) (i : Input),w.os = os ∧ (w.forCall tape i).Shaped C.prog ∧ i.vars = [] ∧ Input.okWide C.prog (w.forCall tape i) .any w.heap.size f i ∧
   ((s.pre enc C.prog fn conds apart (w.forCall tape i).memory i.args ∧ X (w.forCall tape i).memory i.args) ∧ sizedMet enc C.prog fn (OpenSpec.ofChange s) apart (w.forCall tape i).memory i.args) ∧ a.holds C.prog (lone (Frame.enter C.prog f i.args .normal) [] (w.forCall tape i)))
  (contract : ∀ (W : World) (base : Nat) (args : Array Value) (ds gs : List (DataW H)) (before : List MemPlace),
   (∀ (j : Nat) t v,fn.params[j]? = some t → args[j]? = some v → Value.okWide C.prog W .any base t v) →
   DataW.Whole enc C.prog fn.params.toList s.vars apart W args.toList ds gs before → X W args → W.ShapedOpen C.prog →
   Calls C.prog f args W fun e W'=>∃ v,e = .returned v ∧ s.post enc C.prog fn apart fresh handsOn again W args v W') :
  ReturnsInHanded a C os f .any (fun w args=>(s.pre enc C.prog fn conds apart w args ∧ X w args) ∧ sizedMet enc C.prog fn (OpenSpec.ofChange s) apart w args) (s.post enc C.prog fn apart fresh handsOn again) := by
 refine returnsInHanded_of_calls own started noInit witness ?_
 intro w tape i h1 h2 h3 hok hpre hholds
 have hsh : (w.forCall tape i).ShapedOpen C.prog := by assumption
 obtain ⟨_,_,_,fn',hfn',_,_,_,_,hval⟩ := hok
 have e : fn' = fn := Option.some.inj (hfn'.symm.trans hfn)
 subst e
 obtain ⟨⟨⟨ds,gs,before,hw,hc⟩,hx⟩,hz⟩ := hpre
 have hw' := DataW.Whole.of_heap (w' := w.forCall tape i) (by rfl) hw
 refine (contract (w.forCall tape i) w.heap.size i.args ds gs before hval hw' (hX _ _ _ (by rfl) hx) hsh).mono fun e W' ⟨v,he,hp⟩=>?_
 subst he
 exact ChangeSpec.post_blind hp
end Go.Proofs.YtbegodiligmphaaGreatDoor
namespace Go.Proofs.YtbegodiligmphaaGreatDoor
open Go Go.ChangeShapes Go.WideShapes Go.ChangeAt Go.RowKit
section
variable {H : Type} {enc : TypeId × Value → H} {P : Program} {w : World}
def Fits (enc : TypeId × Value → H) (P : Program) (w : World) (t : TypeId) (cs : List Value) : Prop := ∃ fuel x,DataW.trod enc P w 0 (fun _=>true) true fuel t cs = some x
theorem Fits.int {t : TypeId} {k : IntKind} {cs : List Value} (h : Fits enc P w t cs) (ht : P.underlying t = some (.int k)) : ∃ n,cs = [.int k n] ∧ (Lit.int k n).wf = true := by
 obtain ⟨fuel,x,h⟩ := h
 obtain ⟨n,h1,_,h2⟩ := DataW.trod_int ht h
 exact ⟨n,h1,h2⟩
theorem Fits.struct {t : TypeId} {fs : Array Field} {cs : List Value} (h : Fits enc P w t cs) (ht : P.underlying t = some (.struct fs)) :
  cs.length = P.cellsOf t ∧ ∀ (i : Nat) (f : Field),fs[i]? = some f → Fits enc P w f.type ((cs.drop f.offset).take (P.cellsOf f.type)) := by
 obtain ⟨fuel,x,h⟩ := h
 obtain ⟨xs,n,_,_,hl,hx,hf⟩ := DataW.trod_struct ht h
 refine ⟨hl,fun i f hi=>?_⟩
 have h1 := hf i f hi
 have hi' : i < xs.length := by rw [hx]; exact (Array.getElem?_eq_some_iff.1 hi).1
 rw [List.getElem?_eq_getElem hi'] at h1
 exact ⟨n,_,h1⟩
theorem Fits.of {t : TypeId} {cs : Array Value} {d : DataW H} {p : List MemPlace} (h : DataW.Trod enc P w 0 (fun _=>true) true t (.agg cs) d p) : Fits enc P w t cs.toList := by
 obtain ⟨fuel,h⟩ := h
 exact ⟨fuel,_,h⟩
theorem Fits.one {t : TypeId} {v : Value} {d : DataW H} {p : List MemPlace} (h : DataW.Trod enc P w 0 (fun _=>true) true t v d p) (hv : v.cells = #[v]) : Fits enc P w t [v] := by
 obtain ⟨fuel,h⟩ := h
 rw [hv] at h
 exact ⟨fuel,_,h⟩
theorem trod_lt' {t : TypeId} {v : Value} {d : DataW H} {p : List MemPlace} (h : DataW.Trod enc P w 0 (fun _=>true) true t v d p) : ∀ x ∈ p,x.block < w.heap.size := by
 obtain ⟨m,hm⟩ := h
 exact DataW.trod_lt m _ _ _ hm
end
theorem list5 {α : Type} {l : List α} (h : l.length = 5) : ∃ a b c d e,l = [a,b,c,d,e] := by
 match l,h with
 | [a,b,c,d,e],_=>exact ⟨a,b,c,d,e,rfl⟩
section
variable {H : Type} {enc : TypeId × Value → H} {w : World}
theorem cellsSmall : Tryz.prog.cellsOf 65 = 5 := by kernel_rfl
theorem cellsU8 : Tryz.prog.cellsOf 5 = 1 := by kernel_rfl
theorem cellsU16 : Tryz.prog.cellsOf 63 = 1 := by kernel_rfl
theorem fits_small {cs : List Value} (h : Fits enc Tryz.prog w 65 cs) : ∃ a b c d e,cs = [.int .u8 a,.int .u8 b,.int .u8 c,.int .u8 d,.int .u16 e] ∧ (Lit.int .u8 a).wf = true ∧ (Lit.int .u8 b).wf = true ∧ (Lit.int .u8 c).wf = true ∧ (Lit.int .u8 d).wf = true ∧ (Lit.int .u16 e).wf = true := by
 obtain ⟨hl,hf⟩ := h.struct Tryz.underlying65
 rw [cellsSmall] at hl
 obtain ⟨a,b,c,d,e,rfl⟩ := list5 hl
 have h0 : Fits enc Tryz.prog w 5 (([a,b,c,d,e].drop 0).take (Tryz.prog.cellsOf 5)) := hf 0 _ rfl
 have h1 : Fits enc Tryz.prog w 5 (([a,b,c,d,e].drop 1).take (Tryz.prog.cellsOf 5)) := hf 1 _ rfl
 have h2 : Fits enc Tryz.prog w 5 (([a,b,c,d,e].drop 2).take (Tryz.prog.cellsOf 5)) := hf 2 _ rfl
 have h3 : Fits enc Tryz.prog w 5 (([a,b,c,d,e].drop 3).take (Tryz.prog.cellsOf 5)) := hf 3 _ rfl
 have h4 : Fits enc Tryz.prog w 63 (([a,b,c,d,e].drop 4).take (Tryz.prog.cellsOf 63)) := hf 4 _ rfl
 simp only [cellsU8,cellsU16,List.drop_succ_cons,List.drop_zero,List.take_succ_cons,List.take_zero] at h0 h1 h2 h3 h4
 obtain ⟨n0,e0,w0⟩ := h0.int Tryz.underlying5
 obtain ⟨n1,e1,w1⟩ := h1.int Tryz.underlying5
 obtain ⟨n2,e2,w2⟩ := h2.int Tryz.underlying5
 obtain ⟨n3,e3,w3⟩ := h3.int Tryz.underlying5
 obtain ⟨n4,e4,w4⟩ := h4.int Tryz.underlying63
 simp only [List.cons.injEq,and_true] at e0 e1 e2 e3 e4
 subst e0 e1 e2 e3 e4
 exact ⟨_,_,_,_,_,rfl,w0,w1,w2,w3,w4⟩
theorem agg_of {cs : Array Value} {l : List Value} (h : cs.toList = l) : Value.agg cs = .agg l.toArray := by
 rw [← h]
set_option maxRecDepth 100000 in
theorem open_u8 {r : Reach} {base : Nat} {v : Value} {d : DataW H} {p : List MemPlace} (hv : Value.okWide Tryz.prog w r base 5 v) (h : DataW.Trod enc Tryz.prog w 0 (fun _=>true) true 5 v d p) :
  ∃ i,v = .int .u8 i ∧ (Lit.int .u8 i).wf = true := by
 obtain ⟨i,rfl⟩ := okWide_int Tryz.underlying5 hv
 obtain ⟨j,hj,hw⟩ := (Fits.one h rfl).int Tryz.underlying5
 simp only [List.cons.injEq,and_true,Value.int.injEq,true_and] at hj
 subst hj
 exact ⟨i,rfl,hw⟩
set_option maxRecDepth 100000 in
theorem open_b {r : Reach} {base : Nat} {v : Value} {d : DataW H} {p : List MemPlace} (hv : Value.okWide Tryz.prog w r base 4 v) (h : DataW.Trod enc Tryz.prog w 0 (fun _=>true) true 4 v d p) : ∃ b,v = .bool b := by
 obtain ⟨b,hv,_⟩ := open_bool Tryz.underlying4 hv h
 exact ⟨b,hv⟩
set_option maxRecDepth 100000 in
theorem open_small {r : Reach} {base : Nat} {v : Value} {d : DataW H} {p : List MemPlace} (hv : Value.okWide Tryz.prog w r base 65 v) (h : DataW.Trod enc Tryz.prog w 0 (fun _=>true) true 65 v d p) :
  ∃ a b c d e,v = .agg #[.int .u8 a,.int .u8 b,.int .u8 c,.int .u8 d,.int .u16 e] ∧ (Lit.int .u8 a).wf = true ∧ (Lit.int .u8 b).wf = true ∧ (Lit.int .u8 c).wf = true ∧ (Lit.int .u8 d).wf = true ∧ (Lit.int .u16 e).wf = true := by
 obtain ⟨cs,rfl,_⟩ := okWide_struct Tryz.underlying65 hv
 obtain ⟨a,b,c,d,e,hcs,h1,h2,h3,h4,h5⟩ := fits_small (Fits.of h)
 exact ⟨a,b,c,d,e,agg_of hcs,h1,h2,h3,h4,h5⟩
end
end Go.Proofs.YtbegodiligmphaaGreatDoor
