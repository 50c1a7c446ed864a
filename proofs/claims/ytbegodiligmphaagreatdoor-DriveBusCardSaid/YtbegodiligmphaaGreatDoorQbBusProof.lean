/- Proved: the statement DriveBus, as a tied card: without frames, or with frames that are cut, the fault of the bus is active as soon as more than Timeout ticks have passed, and not earlier; a frame ends it. Condition: the package-level variables that the row lists read as the program's text lays them; the card ties that to the text. -/
import Derived.SevenTiedAt
import Derived.Test.YtbegodiligmphaaGreatDoorCards
import Derived.Test.YtbegodiligmphaaGreatDoorTie
import Derived.Test.YtbegodiligmphaaGreatDoorQb07
import Derived.Test.YtbegodiligmphaaGreatDoorQb08
import Derived.Test.YtbegodiligmphaaGreatDoorQb44
namespace Go.Proofs.YtbegodiligmphaaGreatDoor
open Go Go.ChangeShapes Go.WideShapes Go.ChangeAt Go.WideMaps Go.WideElems Go.RowKit
theorem laidOut : laidOutB Tryz.prog = true := driveBus_F1
theorem door_met (os : Os) (args : Array Value) : laidMetH Tryz.prog laidC3 ((World.doorLaid Tryz.prog 400 os).forCall (fun _ _=>0) ⟨#[],args,[]⟩).memory :=
 laidMetH_of_parts3 (fuel := 8) (laidMet_of_run' 8 (by kernel_rfl) (by kernel_rfl)) (by kernel_rfl) (by kernel_rfl)
set_option maxRecDepth 100000 in
theorem driveBus_lifted (os : Os) (started : os.Started) (H : Type) (enc : TypeId × Value → H) :
  ReturnsInHanded {} Tryz.checked os 8 .any (fun w args=>(Rows.driveBusSpec.pre enc Tryz.prog Tryz.f8 [] false w args ∧ laidMetH Tryz.prog laidC3 w) ∧ sizedMet enc Tryz.prog Tryz.f8 (OpenSpec.ofChange Rows.driveBusSpec) false w args)
   (Rows.driveBusSpec.post enc Tryz.prog Tryz.f8 false true false false) := by
 refine returnsInHanded_shaped (C := Tryz.checked) (X := fun w _=>laidMetH Tryz.prog laidC3 w) (fun _ _ _ hh h=>h.of_heap hh) own started (by kernel_rfl) Tryz.func8
  (ChangeSpec.witness_shaped (enc := enc) (C := Tryz.checked) (os := os) (X := fun w _=>laidMetH Tryz.prog laidC3 w) false (World.doorLaid Tryz.prog 400 os) #[.agg #[.int .u8 0,.int .u8 0,.int .u8 0,.int .u8 0,.int .u16 0],.bool false,.int .u8 0] 8 rfl (World.shaped_of_RefB (by kernel_rfl) (by kernel_rfl)) (by kernel_rfl) (by kernel_rfl) (by kernel_rfl) (door_met os _)) ?_
 intro W base args ds gs before hval0 hW hL hSh
 have hval : ∀ (j : Nat) t v,Tryz.f8.params[j]? = some t → args[j]? = some v → Value.okWide Tryz.prog W .any base t v := hval0
 have hW' := hW
 obtain ⟨p,q,hA0,hV,rfl,hfz,hnd⟩ := hW
 have hA : DataW.TrodAll enc Tryz.prog W 0 (fun _=>true) true Tryz.f8.params.toList args.toList ds p := hA0
 rw [Tryz.params8] at hA hval
 obtain ⟨v0,vs0,d0,ds0,p0,q0,hargs,rfl,rfl,h0,r0⟩ := trodAll_cons hA
 obtain ⟨v1,vs1,d1,ds1,p1,q1,rfl,rfl,rfl,h1,r1⟩ := trodAll_cons r0
 obtain ⟨v2,vs2,d2,ds2,p2,q2,rfl,rfl,rfl,h2,r2⟩ := trodAll_cons r1
 obtain ⟨rfl,rfl,rfl⟩ := trodAll_nil r2
 obtain rfl : args = #[v0,v1,v2] := by cases args; simp_all
 obtain ⟨rfl,rfl⟩ := trodVars_none hV
 have k0 := h0
 have lt0 := trod_lt' h0
 obtain ⟨a,b,c,d,e,rfl,w0,w1,w2,w3,w4⟩ := open_small (hval 0 65 v0 rfl rfl) h0
 have k1 := h1
 have lt1 := trod_lt' h1
 obtain ⟨cut,rfl⟩ := open_b (hval 1 4 v1 rfl rfl) h1
 have k2 := h2
 have lt2 := trod_lt' h2
 obtain ⟨m,rfl,wm⟩ := open_u8 (hval 2 5 v2 rfl rfl) h2
 clear hA0 hval0
 refine (driveBus_walk a b c d e w0 w1 w2 w3 w4 cut m wm W (tabs_of hL hSh)).mono fun e W' ⟨he,bel⟩=>?_
 subst he
 exact ⟨_,rfl,_,_,_,[],_,[],hW',trodAll_mk1 (shut_bool Tryz.underlying4 _),(trodAll_cons_mk (Below.trod laidOut (by kernel_rfl) (of_decide_eq_true (by kernel_rfl)) k0 bel lt0) (trodAll_cons_mk (Below.trod laidOut (by kernel_rfl) (of_decide_eq_true (by kernel_rfl)) k1 bel lt1) (trodAll_cons_mk (Below.trod laidOut (by kernel_rfl) (of_decide_eq_true (by kernel_rfl)) k2 bel lt2) trodAll_mk0))),rfl,bel.frame _,fun h=>by cases h⟩
theorem driveBus_closed : joinedFacts Tryz.prog 8 Tryz.f8 Rows.driveBusSpec Rows.driveBusRow = true := by
 unfold joinedFacts
 refine Bool.and_eq_true_iff.mpr ⟨?_,driveBus_F31⟩
 refine Bool.and_eq_true_iff.mpr ⟨?_,driveBus_F30⟩
 refine Bool.and_eq_true_iff.mpr ⟨?_,driveBus_F29⟩
 refine Bool.and_eq_true_iff.mpr ⟨?_,by kernel_rfl⟩
 refine Bool.and_eq_true_iff.mpr ⟨?_,driveBus_F27⟩
 refine Bool.and_eq_true_iff.mpr ⟨?_,driveBus_F26⟩
 refine Bool.and_eq_true_iff.mpr ⟨?_,driveBus_F25⟩
 refine Bool.and_eq_true_iff.mpr ⟨?_,driveBus_F24⟩
 refine Bool.and_eq_true_iff.mpr ⟨?_,driveBus_F23⟩
 refine Bool.and_eq_true_iff.mpr ⟨?_,driveBus_F22⟩
 refine Bool.and_eq_true_iff.mpr ⟨?_,driveBus_F21⟩
 refine Bool.and_eq_true_iff.mpr ⟨?_,driveBus_F20⟩
 refine Bool.and_eq_true_iff.mpr ⟨?_,driveBus_F19⟩
 refine Bool.and_eq_true_iff.mpr ⟨?_,driveBus_F18⟩
 refine Bool.and_eq_true_iff.mpr ⟨?_,driveBus_F17⟩
 refine Bool.and_eq_true_iff.mpr ⟨?_,driveBus_F16⟩
 refine Bool.and_eq_true_iff.mpr ⟨?_,driveBus_F15⟩
 refine Bool.and_eq_true_iff.mpr ⟨?_,driveBus_F14⟩
 refine Bool.and_eq_true_iff.mpr ⟨?_,driveBus_F13⟩
 refine Bool.and_eq_true_iff.mpr ⟨?_,driveBus_F12⟩
 refine Bool.and_eq_true_iff.mpr ⟨?_,driveBus_F11⟩
 refine Bool.and_eq_true_iff.mpr ⟨?_,driveBus_F10⟩
 refine Bool.and_eq_true_iff.mpr ⟨?_,driveBus_F9⟩
 refine Bool.and_eq_true_iff.mpr ⟨?_,driveBus_F8⟩
 refine Bool.and_eq_true_iff.mpr ⟨?_,driveBus_F7⟩
 refine Bool.and_eq_true_iff.mpr ⟨?_,driveBus_F6⟩
 refine Bool.and_eq_true_iff.mpr ⟨?_,driveBus_F5⟩
 refine Bool.and_eq_true_iff.mpr ⟨?_,driveBus_F4⟩
 refine Bool.and_eq_true_iff.mpr ⟨?_,driveBus_F3⟩
 refine Bool.and_eq_true_iff.mpr ⟨?_,driveBus_F2⟩
 refine Bool.and_eq_true_iff.mpr ⟨?_,driveBus_F1⟩
 exact driveBus_F0
theorem driveBus_row : Rows.DriveBusSaid :=
 OpenClaim.holds_of_wide 8 Tryz.f8 rfl rfl rfl rfl rfl rfl rfl ⟨rfl,rfl,rfl,rfl,rfl⟩ rfl rfl rfl rfl rfl driveBus_fn Tryz.func8 driveBus_closed
  (of_decide_eq_true (by kernel_rfl)) (by unfold Func.isWrapper; first | (rw [if_pos (by decide +kernel)]; kernel_rfl) | (rw [if_neg (by decide +kernel)]; exact ⟨rfl,rfl⟩))
  (fun os started H enc _=>driveBus_lifted os started H enc)
theorem driveBus_holds : Rows.DriveBusCardSaid :=
 Claim7.holds_tied_plain_at .later [] [.data,.data,.data] true (true,"dd880b5c2480c704d62e73ef35ba69c7d75ea1272b4fe6e3683ff66b59a2e9aa") true
  driveBus_row (fun _ h=>by cases h) driveBus_wft (fun _ h=>by cases h) driveBus_row_tie rfl ⟨rfl,rfl⟩ driveBus_main rfl
  (fun f fn hf hfn=>by
   obtain rfl : f = 8 := Option.some.inj (driveBus_fn.symm.trans hf) |>.symm
   obtain rfl : fn = Tryz.f8 := (Option.some.inj (Tryz.func8.symm.trans hfn)).symm
   exact ⟨driveBus_looks,fun j t ht=>by
    rw [Tryz.params8] at ht
    have hm : t ∈ [65,4,5] := by simpa using Array.mem_of_getElem? ht
    have hall : ([65,4,5].all fun u=>!Tryz.prog.wantsStandIn u) = true := by kernel_rfl
    exact (show Tryz.prog.wantsStandIn t = false by simpa using List.all_eq_true.1 hall t hm)⟩)
  driveBus_goes
#print axioms driveBus_holds
end Go.Proofs.YtbegodiligmphaaGreatDoor
