/- Part of the proof of BusProof. The walks of layer 24's Run and of the reference's, where something is wrong with what they are asked for. -/
import Derived.Test.YtbegodiligmphaaGreatDoorQb09
namespace Go.Proofs.YtbegodiligmphaaGreatDoor.I
open Go.RowKit
set_option maxRecDepth 100000 in
set_option maxHeartbeats 3200000 in
theorem run_bad (x : Nat → Lg) (f o : Nat → Int) (per dead trip : Int) (w : World) (hc : rcode (x 0) (x 1) (x 2) (f 0) (o 0) (f 1) (o 1) (f 2) (o 2) per dead trip ≠ 0) :
  Calls Tryz.prog 169 #[.agg (cellsL x),.agg (cellsP f o),.int .i64 per,.int .i64 dead,.int .i64 trip] w fun e w' =>
   e = .returned (.tuple #[.agg #[.int .i64 0,.bool false,.bool false,.bool false,.bool false,.bool false,.bool false,.slice none 0 0],.agg #[.int .i64 0,.int .i64 0,.int .i64 0,.int .i64 0,.int .i64 0,.int .i64 0],errV (rcode (x 0) (x 1) (x 2) (f 0) (o 0) (f 1) (o 1) (f 2) (o 2) per dead trip)]) ∧ Below w.heap.size w w' := by
 unfold cellsL cellsP
 have iy0 := idx51_0 (.int .i64 (f 0)) (.int .i64 (o 0)) (.int .i64 (f 1)) (.int .i64 (o 1)) (.int .i64 (f 2)) (.int .i64 (o 2))
 have iy1 := idx51_1 (.int .i64 (f 0)) (.int .i64 (o 0)) (.int .i64 (f 1)) (.int .i64 (o 1)) (.int .i64 (f 2)) (.int .i64 (o 2))
 have iy2 := idx51_2 (.int .i64 (f 0)) (.int .i64 (o 0)) (.int .i64 (f 1)) (.int .i64 (o 1)) (.int .i64 (f 2)) (.int .i64 (o 2))
 have g0 := (((Blk.new w 128 #[.int .i64 (x 0).s,.int .i64 (x 0).j,.int .i64 (x 1).s,.int .i64 (x 1).j,.int .i64 (x 2).s,.int .i64 (x 2).j]).alloc (.cells #[.int .i64 (f 0),.int .i64 (o 0),.int .i64 (f 1),.int .i64 (o 1),.int .i64 (f 2),.int .i64 (o 2)] 314)).alloc (.cells #[.int .i64 0,.bool false,.bool false,.bool false,.bool false,.bool false,.bool false,.slice none 0 0] 76)).alloc (.cells #[.int .i64 0,.int .i64 0,.int .i64 0,.int .i64 0,.int .i64 0,.int .i64 0] 128)
 have g1 := ((Blk.new' (w := w.alloc (.cells #[.int .i64 (x 0).s,.int .i64 (x 0).j,.int .i64 (x 1).s,.int .i64 (x 1).j,.int .i64 (x 2).s,.int .i64 (x 2).j] 128)) (t := 314) (cs := #[.int .i64 (f 0),.int .i64 (o 0),.int .i64 (f 1),.int .i64 (o 1),.int .i64 (f 2),.int .i64 (o 2)]) (g := w.heap.size + 1) (by simp)).alloc (.cells #[.int .i64 0,.bool false,.bool false,.bool false,.bool false,.bool false,.bool false,.slice none 0 0] 76)).alloc (.cells #[.int .i64 0,.int .i64 0,.int .i64 0,.int .i64 0,.int .i64 0,.int .i64 0] 128)
 have g2 := (Blk.new' (w := (w.alloc (.cells #[.int .i64 (x 0).s,.int .i64 (x 0).j,.int .i64 (x 1).s,.int .i64 (x 1).j,.int .i64 (x 2).s,.int .i64 (x 2).j] 128)).alloc (.cells #[.int .i64 (f 0),.int .i64 (o 0),.int .i64 (f 1),.int .i64 (o 1),.int .i64 (f 2),.int .i64 (o 2)] 314)) (t := 76) (cs := #[.int .i64 0,.bool false,.bool false,.bool false,.bool false,.bool false,.bool false,.slice none 0 0]) (g := w.heap.size + 1 + 1) (by simp)).alloc (.cells #[.int .i64 0,.int .i64 0,.int .i64 0,.int .i64 0,.int .i64 0,.int .i64 0] 128)
 have g3 := (Blk.new' (w := ((w.alloc (.cells #[.int .i64 (x 0).s,.int .i64 (x 0).j,.int .i64 (x 1).s,.int .i64 (x 1).j,.int .i64 (x 2).s,.int .i64 (x 2).j] 128)).alloc (.cells #[.int .i64 (f 0),.int .i64 (o 0),.int .i64 (f 1),.int .i64 (o 1),.int .i64 (f 2),.int .i64 (o 2)] 314)).alloc (.cells #[.int .i64 0,.bool false,.bool false,.bool false,.bool false,.bool false,.bool false,.slice none 0 0] 76)) (t := 128) (cs := #[.int .i64 0,.int .i64 0,.int .i64 0,.int .i64 0,.int .i64 0,.int .i64 0]) (g := w.heap.size + 1 + 1 + 1) (by simp))
 have hb0 := ((((Below.refl w.heap.size w).alloc (Nat.le_refl _) (.cells #[.int .i64 (x 0).s,.int .i64 (x 0).j,.int .i64 (x 1).s,.int .i64 (x 1).j,.int .i64 (x 2).s,.int .i64 (x 2).j] 128)).alloc (by simp) (.cells #[.int .i64 (f 0),.int .i64 (o 0),.int .i64 (f 1),.int .i64 (o 1),.int .i64 (f 2),.int .i64 (o 2)] 314)).alloc (by simp <;> omega) (.cells #[.int .i64 0,.bool false,.bool false,.bool false,.bool false,.bool false,.bool false,.slice none 0 0] 76)).alloc (by simp <;> omega) (.cells #[.int .i64 0,.int .i64 0,.int .i64 0,.int .i64 0,.int .i64 0,.int .i64 0] 128)
 cases hrg : rngOk (x 0) (x 1) (x 2) per dead with
 | false =>
  have hcd : rcode (x 0) (x 1) (x 2) (f 0) (o 0) (f 1) (o 1) (f 2) (o 2) per dead trip = 3 := by simp [rcode,hrg]
  have HCD := Lib.hid hcd
  have hrr := fun W=>(ranges_walk (x 0).s (x 0).j (x 1).s (x 1).j (x 2).s (x 2).j per dead W)
  simp only [hrg] at hrr
  have HR := hide hrr
  clear hcd hrr hrg hc
  go_enter Tryz.func169,Tryz.ntmps169
  go_wp2_with fail
  refine ((unhide HR) _).mono ?_
  rintro e w1 ⟨rfl,hb1⟩
  have hb := hb0.trans (hb1.mono hb0.size)
  have h2 := g2.below hb1 g2.lt
  have h3 := g3.below hb1 g3.lt
  clear hb0 hb1 g0 g1 g2 g3
  obtain ⟨u0,u1,u2,u3,u4,u5,u6,u7⟩ := h2.c8
  obtain ⟨z0,z1,z2,z3,z4,z5⟩ := h3.c6
  have fr0 := h2.frozen 0
  have fr1 := h2.frozen 1
  have fr2 := h2.frozen 2
  have fr3 := h2.frozen 3
  have fr4 := h2.frozen 4
  have fr5 := h2.frozen 5
  have fr6 := h2.frozen 6
  have fr7 := h2.frozen 7
  have fz0 := h3.frozen 0
  have fz1 := h3.frozen 1
  have fz2 := h3.frozen 2
  have fz3 := h3.frozen 3
  have fz4 := h3.frozen 4
  have fz5 := h3.frozen 5
  go_wp2
  refine bodyPost_ret (ret_cct rfl rfl rfl (load_gates ((((((((((((((h2.set_ 0 _).set_ 1 _).set_ 2 _).set_ 3 _).set_ 4 _).set_ 5 _).set_ 6 _).set_ 7 _).far (by simp <;> omega) _).far (by simp <;> omega) _).far (by simp <;> omega) _).far (by simp <;> omega) _).far (by simp <;> omega) _).far (by simp <;> omega) _)) (load_legs ((((((((((((((h3.far (by simp <;> omega) _).far (by simp <;> omega) _).far (by simp <;> omega) _).far (by simp <;> omega) _).far (by simp <;> omega) _).far (by simp <;> omega) _).far (by simp <;> omega) _).far (by simp <;> omega) _).set_ 0 _).set_ 1 _).set_ 2 _).set_ 3 _).set_ 4 _).set_ 5 _))) rfl ⟨?_,((((((((((((((hb.setCell (by simp <;> omega) _).setCell (by simp <;> omega) _).setCell (by simp <;> omega) _).setCell (by simp <;> omega) _).setCell (by simp <;> omega) _).setCell (by simp <;> omega) _).setCell (by simp <;> omega) _).setCell (by simp <;> omega) _).setCell (by simp <;> omega) _).setCell (by simp <;> omega) _).setCell (by simp <;> omega) _).setCell (by simp <;> omega) _).setCell (by simp <;> omega) _).setCell (by simp <;> omega) _)⟩
  rw [HCD.out]
  rfl
 | true =>
  have hrr := fun W=>(ranges_walk (x 0).s (x 0).j (x 1).s (x 1).j (x 2).s (x 2).j per dead W)
  simp only [hrg] at hrr
  have HR := hide hrr
  clear hrr
  by_cases htr : 0 ≤ trip ∧ trip ≤ per
  ·have hcd : rcode (x 0) (x 1) (x 2) (f 0) (o 0) (f 1) (o 1) (f 2) (o 2) per dead trip = 11 := by
    unfold rcode at hc ⊢
    rw [hrg] at hc ⊢
    simp only [htr.1,htr.2,decide_true,Bool.and_self,if_true] at hc ⊢
    split
    ·rename_i h; rw [if_pos h] at hc; exact absurd rfl hc
    ·rfl
   have hsh : (shpOk (f 0) (o 0) per && shpOk (f 1) (o 1) per && shpOk (f 2) (o 2) per) = false := by
    rw [Bool.eq_false_iff]
    intro h
    unfold rcode at hcd
    rw [hrg,h] at hcd
    simp [htr.1,htr.2] at hcd
   obtain ⟨ht0,ht1⟩ := htr
   have HCD := Lib.hid hcd
   have HSH := Lib.hid hsh
   clear hcd hsh hrg hc
   go_enter Tryz.func169,Tryz.ntmps169
   go_wp2_with fail
   refine ((unhide HR) _).mono ?_
   rintro e w1 ⟨rfl,hb1⟩
   have hb := hb0.trans (hb1.mono hb0.size)
   have h1 := g1.below hb1 g1.lt
   have h2 := g2.below hb1 g2.lt
   have h3 := g3.below hb1 g3.lt
   clear hb0 hb1 g0 g1 g2 g3
   obtain ⟨y0,y1,y2,y3,y4,y5⟩ := h1.c6
   go_wp2_with fail
   refine (within_yes trip 0 per ht0 ht1 _).mono ?_
   rintro e w' ⟨rfl,rfl⟩
   go_wp2
   clear y0 y1 y2 y3 y4 y5
   go_loopw [35] (fun i wr=>(i = .int .i64 0 ∨ (i = .int .i64 1 ∧ Hid (shpOk (f 0) (o 0) per = true)) ∨ (i = .int .i64 2 ∧ Hid (shpOk (f 0) (o 0) per = true ∧ shpOk (f 1) (o 1) per = true)) ∨ (i = .int .i64 3 ∧ Hid (shpOk (f 0) (o 0) per = true ∧ shpOk (f 1) (o 1) per = true ∧ shpOk (f 2) (o 2) per = true))) ∧ Blk wr (w.heap.size + 1 + 1) 76 #[.int .i64 0,.bool false,.bool false,.bool false,.bool false,.bool false,.bool false,.slice none 0 0] ∧ Blk wr (w.heap.size + 1 + 1 + 1) 128 #[.int .i64 0,.int .i64 0,.int .i64 0,.int .i64 0,.int .i64 0,.int .i64 0] ∧ Below w.heap.size w wr) (fun i _=>3 - (intOf i).toNat)
   case atStart=>exact ⟨.inl rfl,h2,h3,hb⟩
   case round =>
   clear h1 h2 h3 hb
   obtain ⟨hd,h2,h3,hb⟩ := hrel
   rcases hd with rfl | ⟨rfl,hA⟩ | ⟨rfl,hA⟩ | ⟨rfl,hA⟩
   ·have hcs : f 0 < 0 ∨ (0 ≤ f 0 ∧ o 0 < f 0) ∨ (0 ≤ f 0 ∧ f 0 ≤ o 0 ∧ per < o 0) ∨ (0 ≤ f 0 ∧ f 0 ≤ o 0 ∧ o 0 ≤ per) := by omega
    have hb' := hb.alloc hb.size (.cells #[.int .i64 (f 0),.int .i64 (o 0)] 313)
    have h2' := h2.alloc (.cells #[.int .i64 (f 0),.int .i64 (o 0)] 313)
    have h3' := h3.alloc (.cells #[.int .i64 (f 0),.int .i64 (o 0)] 313)
    rcases hcs with q1 | ⟨q1,q2⟩ | ⟨q1,q2,q3⟩ | ⟨q1,q2,q3⟩
    ·have hl2 := h2.lt
     have hl3 := h3.lt
     obtain ⟨u0,u1,u2,u3,u4,u5,u6,u7⟩ := h2.c8
     obtain ⟨z0,z1,z2,z3,z4,z5⟩ := h3.c6
     have fr0 := h2.frozen 0
     have fr1 := h2.frozen 1
     have fr2 := h2.frozen 2
     have fr3 := h2.frozen 3
     have fr4 := h2.frozen 4
     have fr5 := h2.frozen 5
     have fr6 := h2.frozen 6
     have fr7 := h2.frozen 7
     have fz0 := h3.frozen 0
     have fz1 := h3.frozen 1
     have fz2 := h3.frozen 2
     have fz3 := h3.frozen 3
     have fz4 := h3.frozen 4
     have fz5 := h3.frozen 5
     go_wp2
     refine bodyPost_ret (ret_cct rfl rfl rfl (load_gates (((((((((((((((h2.set_ 0 _).set_ 1 _).set_ 2 _).set_ 3 _).set_ 4 _).set_ 5 _).set_ 6 _).set_ 7 _).far (by simp <;> omega) _).far (by simp <;> omega) _).far (by simp <;> omega) _).far (by simp <;> omega) _).far (by simp <;> omega) _).far (by simp <;> omega) _).alloc _)) (load_legs (((((((((((((((h3.far (by simp <;> omega) _).far (by simp <;> omega) _).far (by simp <;> omega) _).far (by simp <;> omega) _).far (by simp <;> omega) _).far (by simp <;> omega) _).far (by simp <;> omega) _).far (by simp <;> omega) _).set_ 0 _).set_ 1 _).set_ 2 _).set_ 3 _).set_ 4 _).set_ 5 _).alloc _))) rfl ⟨?_,(((((((((((((((hb.setCell (by simp <;> omega) _).setCell (by simp <;> omega) _).setCell (by simp <;> omega) _).setCell (by simp <;> omega) _).setCell (by simp <;> omega) _).setCell (by simp <;> omega) _).setCell (by simp <;> omega) _).setCell (by simp <;> omega) _).setCell (by simp <;> omega) _).setCell (by simp <;> omega) _).setCell (by simp <;> omega) _).setCell (by simp <;> omega) _).setCell (by simp <;> omega) _).setCell (by simp <;> omega) _).alloc (by have := hb.size; simp <;> omega) _)⟩
     rw [HCD.out]
     rfl
    ·have hl2 := h2.lt
     have hl3 := h3.lt
     obtain ⟨u0,u1,u2,u3,u4,u5,u6,u7⟩ := h2.c8
     obtain ⟨z0,z1,z2,z3,z4,z5⟩ := h3.c6
     have fr0 := h2.frozen 0
     have fr1 := h2.frozen 1
     have fr2 := h2.frozen 2
     have fr3 := h2.frozen 3
     have fr4 := h2.frozen 4
     have fr5 := h2.frozen 5
     have fr6 := h2.frozen 6
     have fr7 := h2.frozen 7
     have fz0 := h3.frozen 0
     have fz1 := h3.frozen 1
     have fz2 := h3.frozen 2
     have fz3 := h3.frozen 3
     have fz4 := h3.frozen 4
     have fz5 := h3.frozen 5
     go_wp2
     refine bodyPost_ret (ret_cct rfl rfl rfl (load_gates (((((((((((((((h2.set_ 0 _).set_ 1 _).set_ 2 _).set_ 3 _).set_ 4 _).set_ 5 _).set_ 6 _).set_ 7 _).far (by simp <;> omega) _).far (by simp <;> omega) _).far (by simp <;> omega) _).far (by simp <;> omega) _).far (by simp <;> omega) _).far (by simp <;> omega) _).alloc _)) (load_legs (((((((((((((((h3.far (by simp <;> omega) _).far (by simp <;> omega) _).far (by simp <;> omega) _).far (by simp <;> omega) _).far (by simp <;> omega) _).far (by simp <;> omega) _).far (by simp <;> omega) _).far (by simp <;> omega) _).set_ 0 _).set_ 1 _).set_ 2 _).set_ 3 _).set_ 4 _).set_ 5 _).alloc _))) rfl ⟨?_,(((((((((((((((hb.setCell (by simp <;> omega) _).setCell (by simp <;> omega) _).setCell (by simp <;> omega) _).setCell (by simp <;> omega) _).setCell (by simp <;> omega) _).setCell (by simp <;> omega) _).setCell (by simp <;> omega) _).setCell (by simp <;> omega) _).setCell (by simp <;> omega) _).setCell (by simp <;> omega) _).setCell (by simp <;> omega) _).setCell (by simp <;> omega) _).setCell (by simp <;> omega) _).setCell (by simp <;> omega) _).alloc (by have := hb.size; simp <;> omega) _)⟩
     rw [HCD.out]
     rfl
    ·have hl2 := h2.lt
     have hl3 := h3.lt
     obtain ⟨u0,u1,u2,u3,u4,u5,u6,u7⟩ := h2.c8
     obtain ⟨z0,z1,z2,z3,z4,z5⟩ := h3.c6
     have fr0 := h2.frozen 0
     have fr1 := h2.frozen 1
     have fr2 := h2.frozen 2
     have fr3 := h2.frozen 3
     have fr4 := h2.frozen 4
     have fr5 := h2.frozen 5
     have fr6 := h2.frozen 6
     have fr7 := h2.frozen 7
     have fz0 := h3.frozen 0
     have fz1 := h3.frozen 1
     have fz2 := h3.frozen 2
     have fz3 := h3.frozen 3
     have fz4 := h3.frozen 4
     have fz5 := h3.frozen 5
     go_wp2
     refine bodyPost_ret (ret_cct rfl rfl rfl (load_gates (((((((((((((((h2.set_ 0 _).set_ 1 _).set_ 2 _).set_ 3 _).set_ 4 _).set_ 5 _).set_ 6 _).set_ 7 _).far (by simp <;> omega) _).far (by simp <;> omega) _).far (by simp <;> omega) _).far (by simp <;> omega) _).far (by simp <;> omega) _).far (by simp <;> omega) _).alloc _)) (load_legs (((((((((((((((h3.far (by simp <;> omega) _).far (by simp <;> omega) _).far (by simp <;> omega) _).far (by simp <;> omega) _).far (by simp <;> omega) _).far (by simp <;> omega) _).far (by simp <;> omega) _).far (by simp <;> omega) _).set_ 0 _).set_ 1 _).set_ 2 _).set_ 3 _).set_ 4 _).set_ 5 _).alloc _))) rfl ⟨?_,(((((((((((((((hb.setCell (by simp <;> omega) _).setCell (by simp <;> omega) _).setCell (by simp <;> omega) _).setCell (by simp <;> omega) _).setCell (by simp <;> omega) _).setCell (by simp <;> omega) _).setCell (by simp <;> omega) _).setCell (by simp <;> omega) _).setCell (by simp <;> omega) _).setCell (by simp <;> omega) _).setCell (by simp <;> omega) _).setCell (by simp <;> omega) _).setCell (by simp <;> omega) _).setCell (by simp <;> omega) _).alloc (by have := hb.size; simp <;> omega) _)⟩
     rw [HCD.out]
     rfl
    ·have hs : shpOk (f 0) (o 0) per = true := by simp [shpOk,q1,q2,q3]
     have HS := Lib.hid hs
     clear hs
     go_wp2
     go_roundw
     case rel=>exact ⟨.inr (.inl ⟨rfl,HS.out⟩),h2',h3',hb'⟩
     case measure=>simp [intOf]
   ·have hcs : f 1 < 0 ∨ (0 ≤ f 1 ∧ o 1 < f 1) ∨ (0 ≤ f 1 ∧ f 1 ≤ o 1 ∧ per < o 1) ∨ (0 ≤ f 1 ∧ f 1 ≤ o 1 ∧ o 1 ≤ per) := by omega
    have hb' := hb.alloc hb.size (.cells #[.int .i64 (f 1),.int .i64 (o 1)] 313)
    have h2' := h2.alloc (.cells #[.int .i64 (f 1),.int .i64 (o 1)] 313)
    have h3' := h3.alloc (.cells #[.int .i64 (f 1),.int .i64 (o 1)] 313)
    rcases hcs with q1 | ⟨q1,q2⟩ | ⟨q1,q2,q3⟩ | ⟨q1,q2,q3⟩
    ·have hl2 := h2.lt
     have hl3 := h3.lt
     obtain ⟨u0,u1,u2,u3,u4,u5,u6,u7⟩ := h2.c8
     obtain ⟨z0,z1,z2,z3,z4,z5⟩ := h3.c6
     have fr0 := h2.frozen 0
     have fr1 := h2.frozen 1
     have fr2 := h2.frozen 2
     have fr3 := h2.frozen 3
     have fr4 := h2.frozen 4
     have fr5 := h2.frozen 5
     have fr6 := h2.frozen 6
     have fr7 := h2.frozen 7
     have fz0 := h3.frozen 0
     have fz1 := h3.frozen 1
     have fz2 := h3.frozen 2
     have fz3 := h3.frozen 3
     have fz4 := h3.frozen 4
     have fz5 := h3.frozen 5
     go_wp2
     refine bodyPost_ret (ret_cct rfl rfl rfl (load_gates (((((((((((((((h2.set_ 0 _).set_ 1 _).set_ 2 _).set_ 3 _).set_ 4 _).set_ 5 _).set_ 6 _).set_ 7 _).far (by simp <;> omega) _).far (by simp <;> omega) _).far (by simp <;> omega) _).far (by simp <;> omega) _).far (by simp <;> omega) _).far (by simp <;> omega) _).alloc _)) (load_legs (((((((((((((((h3.far (by simp <;> omega) _).far (by simp <;> omega) _).far (by simp <;> omega) _).far (by simp <;> omega) _).far (by simp <;> omega) _).far (by simp <;> omega) _).far (by simp <;> omega) _).far (by simp <;> omega) _).set_ 0 _).set_ 1 _).set_ 2 _).set_ 3 _).set_ 4 _).set_ 5 _).alloc _))) rfl ⟨?_,(((((((((((((((hb.setCell (by simp <;> omega) _).setCell (by simp <;> omega) _).setCell (by simp <;> omega) _).setCell (by simp <;> omega) _).setCell (by simp <;> omega) _).setCell (by simp <;> omega) _).setCell (by simp <;> omega) _).setCell (by simp <;> omega) _).setCell (by simp <;> omega) _).setCell (by simp <;> omega) _).setCell (by simp <;> omega) _).setCell (by simp <;> omega) _).setCell (by simp <;> omega) _).setCell (by simp <;> omega) _).alloc (by have := hb.size; simp <;> omega) _)⟩
     rw [HCD.out]
     rfl
    ·have hl2 := h2.lt
     have hl3 := h3.lt
     obtain ⟨u0,u1,u2,u3,u4,u5,u6,u7⟩ := h2.c8
     obtain ⟨z0,z1,z2,z3,z4,z5⟩ := h3.c6
     have fr0 := h2.frozen 0
     have fr1 := h2.frozen 1
     have fr2 := h2.frozen 2
     have fr3 := h2.frozen 3
     have fr4 := h2.frozen 4
     have fr5 := h2.frozen 5
     have fr6 := h2.frozen 6
     have fr7 := h2.frozen 7
     have fz0 := h3.frozen 0
     have fz1 := h3.frozen 1
     have fz2 := h3.frozen 2
     have fz3 := h3.frozen 3
     have fz4 := h3.frozen 4
     have fz5 := h3.frozen 5
     go_wp2
     refine bodyPost_ret (ret_cct rfl rfl rfl (load_gates (((((((((((((((h2.set_ 0 _).set_ 1 _).set_ 2 _).set_ 3 _).set_ 4 _).set_ 5 _).set_ 6 _).set_ 7 _).far (by simp <;> omega) _).far (by simp <;> omega) _).far (by simp <;> omega) _).far (by simp <;> omega) _).far (by simp <;> omega) _).far (by simp <;> omega) _).alloc _)) (load_legs (((((((((((((((h3.far (by simp <;> omega) _).far (by simp <;> omega) _).far (by simp <;> omega) _).far (by simp <;> omega) _).far (by simp <;> omega) _).far (by simp <;> omega) _).far (by simp <;> omega) _).far (by simp <;> omega) _).set_ 0 _).set_ 1 _).set_ 2 _).set_ 3 _).set_ 4 _).set_ 5 _).alloc _))) rfl ⟨?_,(((((((((((((((hb.setCell (by simp <;> omega) _).setCell (by simp <;> omega) _).setCell (by simp <;> omega) _).setCell (by simp <;> omega) _).setCell (by simp <;> omega) _).setCell (by simp <;> omega) _).setCell (by simp <;> omega) _).setCell (by simp <;> omega) _).setCell (by simp <;> omega) _).setCell (by simp <;> omega) _).setCell (by simp <;> omega) _).setCell (by simp <;> omega) _).setCell (by simp <;> omega) _).setCell (by simp <;> omega) _).alloc (by have := hb.size; simp <;> omega) _)⟩
     rw [HCD.out]
     rfl
    ·have hl2 := h2.lt
     have hl3 := h3.lt
     obtain ⟨u0,u1,u2,u3,u4,u5,u6,u7⟩ := h2.c8
     obtain ⟨z0,z1,z2,z3,z4,z5⟩ := h3.c6
     have fr0 := h2.frozen 0
     have fr1 := h2.frozen 1
     have fr2 := h2.frozen 2
     have fr3 := h2.frozen 3
     have fr4 := h2.frozen 4
     have fr5 := h2.frozen 5
     have fr6 := h2.frozen 6
     have fr7 := h2.frozen 7
     have fz0 := h3.frozen 0
     have fz1 := h3.frozen 1
     have fz2 := h3.frozen 2
     have fz3 := h3.frozen 3
     have fz4 := h3.frozen 4
     have fz5 := h3.frozen 5
     go_wp2
     refine bodyPost_ret (ret_cct rfl rfl rfl (load_gates (((((((((((((((h2.set_ 0 _).set_ 1 _).set_ 2 _).set_ 3 _).set_ 4 _).set_ 5 _).set_ 6 _).set_ 7 _).far (by simp <;> omega) _).far (by simp <;> omega) _).far (by simp <;> omega) _).far (by simp <;> omega) _).far (by simp <;> omega) _).far (by simp <;> omega) _).alloc _)) (load_legs (((((((((((((((h3.far (by simp <;> omega) _).far (by simp <;> omega) _).far (by simp <;> omega) _).far (by simp <;> omega) _).far (by simp <;> omega) _).far (by simp <;> omega) _).far (by simp <;> omega) _).far (by simp <;> omega) _).set_ 0 _).set_ 1 _).set_ 2 _).set_ 3 _).set_ 4 _).set_ 5 _).alloc _))) rfl ⟨?_,(((((((((((((((hb.setCell (by simp <;> omega) _).setCell (by simp <;> omega) _).setCell (by simp <;> omega) _).setCell (by simp <;> omega) _).setCell (by simp <;> omega) _).setCell (by simp <;> omega) _).setCell (by simp <;> omega) _).setCell (by simp <;> omega) _).setCell (by simp <;> omega) _).setCell (by simp <;> omega) _).setCell (by simp <;> omega) _).setCell (by simp <;> omega) _).setCell (by simp <;> omega) _).setCell (by simp <;> omega) _).alloc (by have := hb.size; simp <;> omega) _)⟩
     rw [HCD.out]
     rfl
    ·have hs : shpOk (f 1) (o 1) per = true := by simp [shpOk,q1,q2,q3]
     have HS := Lib.hid hs
     clear hs
     go_wp2
     go_roundw
     case rel=>exact ⟨.inr (.inr (.inl ⟨rfl,⟨hA.out,HS.out⟩⟩)),h2',h3',hb'⟩
     case measure=>simp [intOf]
   ·have hcs : f 2 < 0 ∨ (0 ≤ f 2 ∧ o 2 < f 2) ∨ (0 ≤ f 2 ∧ f 2 ≤ o 2 ∧ per < o 2) ∨ (0 ≤ f 2 ∧ f 2 ≤ o 2 ∧ o 2 ≤ per) := by omega
    have hb' := hb.alloc hb.size (.cells #[.int .i64 (f 2),.int .i64 (o 2)] 313)
    have h2' := h2.alloc (.cells #[.int .i64 (f 2),.int .i64 (o 2)] 313)
    have h3' := h3.alloc (.cells #[.int .i64 (f 2),.int .i64 (o 2)] 313)
    rcases hcs with q1 | ⟨q1,q2⟩ | ⟨q1,q2,q3⟩ | ⟨q1,q2,q3⟩
    ·have hl2 := h2.lt
     have hl3 := h3.lt
     obtain ⟨u0,u1,u2,u3,u4,u5,u6,u7⟩ := h2.c8
     obtain ⟨z0,z1,z2,z3,z4,z5⟩ := h3.c6
     have fr0 := h2.frozen 0
     have fr1 := h2.frozen 1
     have fr2 := h2.frozen 2
     have fr3 := h2.frozen 3
     have fr4 := h2.frozen 4
     have fr5 := h2.frozen 5
     have fr6 := h2.frozen 6
     have fr7 := h2.frozen 7
     have fz0 := h3.frozen 0
     have fz1 := h3.frozen 1
     have fz2 := h3.frozen 2
     have fz3 := h3.frozen 3
     have fz4 := h3.frozen 4
     have fz5 := h3.frozen 5
     go_wp2
     refine bodyPost_ret (ret_cct rfl rfl rfl (load_gates (((((((((((((((h2.set_ 0 _).set_ 1 _).set_ 2 _).set_ 3 _).set_ 4 _).set_ 5 _).set_ 6 _).set_ 7 _).far (by simp <;> omega) _).far (by simp <;> omega) _).far (by simp <;> omega) _).far (by simp <;> omega) _).far (by simp <;> omega) _).far (by simp <;> omega) _).alloc _)) (load_legs (((((((((((((((h3.far (by simp <;> omega) _).far (by simp <;> omega) _).far (by simp <;> omega) _).far (by simp <;> omega) _).far (by simp <;> omega) _).far (by simp <;> omega) _).far (by simp <;> omega) _).far (by simp <;> omega) _).set_ 0 _).set_ 1 _).set_ 2 _).set_ 3 _).set_ 4 _).set_ 5 _).alloc _))) rfl ⟨?_,(((((((((((((((hb.setCell (by simp <;> omega) _).setCell (by simp <;> omega) _).setCell (by simp <;> omega) _).setCell (by simp <;> omega) _).setCell (by simp <;> omega) _).setCell (by simp <;> omega) _).setCell (by simp <;> omega) _).setCell (by simp <;> omega) _).setCell (by simp <;> omega) _).setCell (by simp <;> omega) _).setCell (by simp <;> omega) _).setCell (by simp <;> omega) _).setCell (by simp <;> omega) _).setCell (by simp <;> omega) _).alloc (by have := hb.size; simp <;> omega) _)⟩
     rw [HCD.out]
     rfl
    ·have hl2 := h2.lt
     have hl3 := h3.lt
     obtain ⟨u0,u1,u2,u3,u4,u5,u6,u7⟩ := h2.c8
     obtain ⟨z0,z1,z2,z3,z4,z5⟩ := h3.c6
     have fr0 := h2.frozen 0
     have fr1 := h2.frozen 1
     have fr2 := h2.frozen 2
     have fr3 := h2.frozen 3
     have fr4 := h2.frozen 4
     have fr5 := h2.frozen 5
     have fr6 := h2.frozen 6
     have fr7 := h2.frozen 7
     have fz0 := h3.frozen 0
     have fz1 := h3.frozen 1
     have fz2 := h3.frozen 2
     have fz3 := h3.frozen 3
     have fz4 := h3.frozen 4
     have fz5 := h3.frozen 5
     go_wp2
     refine bodyPost_ret (ret_cct rfl rfl rfl (load_gates (((((((((((((((h2.set_ 0 _).set_ 1 _).set_ 2 _).set_ 3 _).set_ 4 _).set_ 5 _).set_ 6 _).set_ 7 _).far (by simp <;> omega) _).far (by simp <;> omega) _).far (by simp <;> omega) _).far (by simp <;> omega) _).far (by simp <;> omega) _).far (by simp <;> omega) _).alloc _)) (load_legs (((((((((((((((h3.far (by simp <;> omega) _).far (by simp <;> omega) _).far (by simp <;> omega) _).far (by simp <;> omega) _).far (by simp <;> omega) _).far (by simp <;> omega) _).far (by simp <;> omega) _).far (by simp <;> omega) _).set_ 0 _).set_ 1 _).set_ 2 _).set_ 3 _).set_ 4 _).set_ 5 _).alloc _))) rfl ⟨?_,(((((((((((((((hb.setCell (by simp <;> omega) _).setCell (by simp <;> omega) _).setCell (by simp <;> omega) _).setCell (by simp <;> omega) _).setCell (by simp <;> omega) _).setCell (by simp <;> omega) _).setCell (by simp <;> omega) _).setCell (by simp <;> omega) _).setCell (by simp <;> omega) _).setCell (by simp <;> omega) _).setCell (by simp <;> omega) _).setCell (by simp <;> omega) _).setCell (by simp <;> omega) _).setCell (by simp <;> omega) _).alloc (by have := hb.size; simp <;> omega) _)⟩
     rw [HCD.out]
     rfl
    ·have hl2 := h2.lt
     have hl3 := h3.lt
     obtain ⟨u0,u1,u2,u3,u4,u5,u6,u7⟩ := h2.c8
     obtain ⟨z0,z1,z2,z3,z4,z5⟩ := h3.c6
     have fr0 := h2.frozen 0
     have fr1 := h2.frozen 1
     have fr2 := h2.frozen 2
     have fr3 := h2.frozen 3
     have fr4 := h2.frozen 4
     have fr5 := h2.frozen 5
     have fr6 := h2.frozen 6
     have fr7 := h2.frozen 7
     have fz0 := h3.frozen 0
     have fz1 := h3.frozen 1
     have fz2 := h3.frozen 2
     have fz3 := h3.frozen 3
     have fz4 := h3.frozen 4
     have fz5 := h3.frozen 5
     go_wp2
     refine bodyPost_ret (ret_cct rfl rfl rfl (load_gates (((((((((((((((h2.set_ 0 _).set_ 1 _).set_ 2 _).set_ 3 _).set_ 4 _).set_ 5 _).set_ 6 _).set_ 7 _).far (by simp <;> omega) _).far (by simp <;> omega) _).far (by simp <;> omega) _).far (by simp <;> omega) _).far (by simp <;> omega) _).far (by simp <;> omega) _).alloc _)) (load_legs (((((((((((((((h3.far (by simp <;> omega) _).far (by simp <;> omega) _).far (by simp <;> omega) _).far (by simp <;> omega) _).far (by simp <;> omega) _).far (by simp <;> omega) _).far (by simp <;> omega) _).far (by simp <;> omega) _).set_ 0 _).set_ 1 _).set_ 2 _).set_ 3 _).set_ 4 _).set_ 5 _).alloc _))) rfl ⟨?_,(((((((((((((((hb.setCell (by simp <;> omega) _).setCell (by simp <;> omega) _).setCell (by simp <;> omega) _).setCell (by simp <;> omega) _).setCell (by simp <;> omega) _).setCell (by simp <;> omega) _).setCell (by simp <;> omega) _).setCell (by simp <;> omega) _).setCell (by simp <;> omega) _).setCell (by simp <;> omega) _).setCell (by simp <;> omega) _).setCell (by simp <;> omega) _).setCell (by simp <;> omega) _).setCell (by simp <;> omega) _).alloc (by have := hb.size; simp <;> omega) _)⟩
     rw [HCD.out]
     rfl
    ·have hs : shpOk (f 2) (o 2) per = true := by simp [shpOk,q1,q2,q3]
     have HS := Lib.hid hs
     clear hs
     go_wp2
     go_roundw
     case rel=>exact ⟨.inr (.inr (.inr ⟨rfl,⟨hA.out.1,hA.out.2,HS.out⟩⟩)),h2',h3',hb'⟩
     case measure=>simp [intOf]
   ·exact absurd HSH.out (by
     have hA' := hA.out
     simp [hA'.1,hA'.2.1,hA'.2.2])
  ·have hcd : rcode (x 0) (x 1) (x 2) (f 0) (o 0) (f 1) (o 1) (f 2) (o 2) per dead trip = 3 := by
    unfold rcode
    rw [if_neg]
    simp only [Bool.and_eq_true,decide_eq_true_eq]
    exact fun h=>htr h.2
   have HCD := Lib.hid hcd
   have HX := Lib.hid htr
   clear hcd hrg hc
   clear htr
   go_enter Tryz.func169,Tryz.ntmps169
   go_wp2_with fail
   refine ((unhide HR) _).mono ?_
   rintro e w1 ⟨rfl,hb1⟩
   have hb := hb0.trans (hb1.mono hb0.size)
   have h2 := g2.below hb1 g2.lt
   have h3 := g3.below hb1 g3.lt
   clear hb0 hb1 g0 g1 g2 g3
   go_wp2_with fail
   refine (within_no trip 0 per HX.out _).mono ?_
   rintro e w' ⟨rfl,rfl⟩
   obtain ⟨u0,u1,u2,u3,u4,u5,u6,u7⟩ := h2.c8
   obtain ⟨z0,z1,z2,z3,z4,z5⟩ := h3.c6
   have fr0 := h2.frozen 0
   have fr1 := h2.frozen 1
   have fr2 := h2.frozen 2
   have fr3 := h2.frozen 3
   have fr4 := h2.frozen 4
   have fr5 := h2.frozen 5
   have fr6 := h2.frozen 6
   have fr7 := h2.frozen 7
   have fz0 := h3.frozen 0
   have fz1 := h3.frozen 1
   have fz2 := h3.frozen 2
   have fz3 := h3.frozen 3
   have fz4 := h3.frozen 4
   have fz5 := h3.frozen 5
   go_wp2
   refine bodyPost_ret (ret_cct rfl rfl rfl (load_gates ((((((((((((((h2.set_ 0 _).set_ 1 _).set_ 2 _).set_ 3 _).set_ 4 _).set_ 5 _).set_ 6 _).set_ 7 _).far (by simp <;> omega) _).far (by simp <;> omega) _).far (by simp <;> omega) _).far (by simp <;> omega) _).far (by simp <;> omega) _).far (by simp <;> omega) _)) (load_legs ((((((((((((((h3.far (by simp <;> omega) _).far (by simp <;> omega) _).far (by simp <;> omega) _).far (by simp <;> omega) _).far (by simp <;> omega) _).far (by simp <;> omega) _).far (by simp <;> omega) _).far (by simp <;> omega) _).set_ 0 _).set_ 1 _).set_ 2 _).set_ 3 _).set_ 4 _).set_ 5 _))) rfl ⟨?_,((((((((((((((hb.setCell (by simp <;> omega) _).setCell (by simp <;> omega) _).setCell (by simp <;> omega) _).setCell (by simp <;> omega) _).setCell (by simp <;> omega) _).setCell (by simp <;> omega) _).setCell (by simp <;> omega) _).setCell (by simp <;> omega) _).setCell (by simp <;> omega) _).setCell (by simp <;> omega) _).setCell (by simp <;> omega) _).setCell (by simp <;> omega) _).setCell (by simp <;> omega) _).setCell (by simp <;> omega) _)⟩
   rw [HCD.out]
   rfl
end Go.Proofs.YtbegodiligmphaaGreatDoor.I
