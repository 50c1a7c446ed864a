/- awake: the example's numbers. -/
import Derived.Test.YtmmplfokidnpnaaMLaw
import Derived.Deep.CutRange
import Derived.Deep.RegionHeld3
namespace Go.Proofs.Ytmmplfokidnpnaa
open Go.RowKit
theorem ex_start (a1 a2 a3 a4 : Addr) (W : World) (h : Ly W W.heap.size cex (some a1) (some a2) (some a3) (some a4) 3 3 3 3) : Calls Try.prog 15 #[.agg #[.int .i64 500, .int .i64 1000, .slice (some a1) 3 3, .slice (some a2) 3 3, .slice (some a3) 3 3, .slice (some a4) 3 3, .int .i64 2, .int .i64 1000, .int .i64 100]] W fun e w' => e = .returned (.tuple #[.agg #[.int .i64 1000, .int .i64 0], .nilIface]) ∧ Below W.heap.size W w' :=
  startM cex a1 a2 a3 a4 3 3 3 3 3 3 W h cex_ok
theorem ex_step (a1 a2 a3 a4 : Addr) (W : World) (h : Ly W W.heap.size cex (some a1) (some a2) (some a3) (some a4) 3 3 3 3) : Calls Try.prog 23 #[.agg #[.int .i64 500, .int .i64 1000, .slice (some a1) 3 3, .slice (some a2) 3 3, .slice (some a3) 3 3, .slice (some a4) 3 3, .int .i64 2, .int .i64 1000, .int .i64 100], .agg #[.int .i64 1000, .int .i64 0], .agg #[.int .i64 0, .int .i64 200, .int .i64 0]] W fun e w' => e = .returned (.tuple #[.agg #[.int .i64 1000, .int .i64 200], .nilIface]) ∧ Below W.heap.size W w' := by
  have t := stepM cex a1 a2 a3 a4 3 3 3 3 3 3 1000 0 0 200 0 W h cex_ok
  rw [show cex.m + inX cex.dx (stD cex 1000 0 0 0 - cex.m) = 1000 by decide +kernel, show inX cex.qx (stQ cex 1000 0 200 0) = 200 by decide +kernel] at t
  exact t
theorem ex_currents (a1 a2 a3 a4 : Addr) (W : World) (h : Ly W W.heap.size cex (some a1) (some a2) (some a3) (some a4) 3 3 3 3) : Calls Try.prog 18 #[.agg #[.int .i64 500, .int .i64 1000, .slice (some a1) 3 3, .slice (some a2) 3 3, .slice (some a3) 3 3, .slice (some a4) 3 3, .int .i64 2, .int .i64 1000, .int .i64 100], .agg #[.int .i64 1000, .int .i64 200]] W fun e w' => e = .returned (.tuple #[.agg #[.int .i64 0, .int .i64 100], .nilIface]) ∧ Below W.heap.size W w' := by
  have t := currentsM cex a1 a2 a3 a4 3 3 3 3 3 3 1000 200 W h cex_ok
  rw [show curD cex 1000 = 0 by decide +kernel, show curQ cex 200 = 100 by decide +kernel] at t
  exact t
theorem ex_torque (a1 a2 a3 a4 : Addr) (W : World) (h : Ly W W.heap.size cex (some a1) (some a2) (some a3) (some a4) 3 3 3 3) : Calls Try.prog 19 #[.agg #[.int .i64 500, .int .i64 1000, .slice (some a1) 3 3, .slice (some a2) 3 3, .slice (some a3) 3 3, .slice (some a4) 3 3, .int .i64 2, .int .i64 1000, .int .i64 100], .agg #[.int .i64 1000, .int .i64 200]] W fun e w' => e = .returned (.tuple #[.int .i64 300, .nilIface]) ∧ Below W.heap.size W w' := by
  have t := torqueM cex a1 a2 a3 a4 3 3 3 3 3 3 1000 200 W h cex_ok
  rw [show torq cex 1000 200 = 300 by decide +kernel] at t
  exact t
/-- A state in memory. -/
structure BS (w0 w : World) (g : Nat) (x y : Int) : Prop where
  q : Blk w g 33 #[.int .i64 x, .int .i64 y]
  b : Below w0.heap.size w0 w
section
variable {w0 w w' : World} {g g' : Nat} {x y x' y' : Int}
theorem BS.all (h : BS w0 w g x y) : BS w0 w g x y ∧ w.cell? ⟨g, 0, none⟩ = some (.int .i64 x) ∧ w.cell? ⟨g, 1, none⟩ = some (.int .i64 y) := ⟨h, h.q.cell 0, h.q.cell 1⟩
theorem BS.drew (h : BS w0 w g x y) : BS w0 w.drew g x y := ⟨h.q.drew, h.b.drew⟩
theorem BS.one {Q : Prop} (h : BS w0 w g x y ∧ Q) : BS w0 w g x y := h.1
theorem BS.below (hb : Below w.heap.size w w') (h : BS w0 w g x y) : BS w0 w' g x y := ⟨h.q.below hb h.q.lt, h.b.trans (hb.mono h.b.size)⟩
theorem BS.alloc (h : BS w0 w g x y) (o : Obj) : BS w0 (w.alloc o) g x y := ⟨h.q.alloc o, h.b.alloc h.b.size o⟩
theorem BS.set (h : BS w0 w g x y) {p : Addr} (hp : g < p.block) (hq : w0.heap.size ≤ p.block) (u : Value) : BS w0 (w.setCell p u) g x y := ⟨h.q.far (by omega) u, h.b.setCell hq u⟩
end
/-- A state and currents in memory. -/
structure BD (w0 w : World) (g g' : Nat) (x y x' y' : Int) : Prop where
  q : Blk w g 33 #[.int .i64 x, .int .i64 y]
  i : Blk w g' 31 #[.int .i64 x', .int .i64 y']
  b : Below w0.heap.size w0 w
section
variable {w0 w w' : World} {g g' : Nat} {x y x' y' : Int}
theorem BD.all (h : BD w0 w g g' x y x' y') : BD w0 w g g' x y x' y' ∧ w.cell? ⟨g, 0, none⟩ = some (.int .i64 x) ∧ w.cell? ⟨g, 1, none⟩ = some (.int .i64 y) := ⟨h, h.q.cell 0, h.q.cell 1⟩
theorem BD.drew (h : BD w0 w g g' x y x' y') : BD w0 w.drew g g' x y x' y' := ⟨h.q.drew, h.i.drew, h.b.drew⟩
theorem BD.one {Q : Prop} (h : BD w0 w g g' x y x' y' ∧ Q) : BD w0 w g g' x y x' y' := h.1
theorem BD.below (hb : Below w.heap.size w w') (h : BD w0 w g g' x y x' y') : BD w0 w' g g' x y x' y' := ⟨h.q.below hb h.q.lt, h.i.below hb h.i.lt, h.b.trans (hb.mono h.b.size)⟩
end
set_option maxRecDepth 100000 in
set_option maxHeartbeats 1600000 in
theorem awake_walk (w : World) : Calls Try.prog 12 #[] w fun e w' => e = .returned (.bool true) ∧ Below w.heap.size w w' := by
  go_enter Try.func12, Try.ntmps12
  go_wp2_with fail
  refine (example_walk _).mono ?_
  rintro e w1 ⟨a1, a2, a3, a4, rfl, L1, hb1⟩
  go_wp2_with fail
  with_reducible refine (ex_start _ _ _ _ _ L1).mono ?_
  rintro e w2 ⟨rfl, hb2⟩
  have HB2 := hb1.trans (hb2.mono hb1.size)
  go_wp2_with fail
  have g3 := Blk.new w2 33 #[.int .i64 1000, .int .i64 0]
  have HB3 := HB2.alloc HB2.size (.cells #[.int .i64 1000, .int .i64 0] 33)
  obtain ⟨b3, hb3⟩ : ∃ b, w2.heap.size = b := ⟨_, rfl⟩
  obtain ⟨w3, hw3⟩ : ∃ W, w2.alloc (.cells #[.int .i64 1000, .int .i64 0] 33) = W := ⟨_, rfl⟩
  simp only [hw3, hb3] at g3 HB3 ⊢
  clear hw3
  have has : BS w w3 b3 1000 0 := ⟨g3, HB3⟩
  have l3 := g3.lt
  have lw : w.heap.size ≤ b3 := by have := HB2.size; omega
  clear g3 HB3 HB2 hb3 hb1 hb2 L1
  go_cut [3, 4] from 14 to 21 (fun u3 u4 wx => u4 = .nilIface ∧ ∃ b, u3 = .pointer (some ⟨b, 0, none⟩) ∧ BS w wx b 1000 200)
  case first =>
    go_region_held3 (fun w' => BS w w' b3 1000 0 ∧ w'.cell? ⟨b3, 0, none⟩ = some (.int .i64 1000) ∧ w'.cell? ⟨b3, 1, none⟩ = some (.int .i64 0))
      (first | (refine BS.all ?_; repeat (first | with_reducible exact has | with_reducible exact hasE | with_reducible exact hasS | with_reducible refine BS.drew ?_ | with_reducible refine BS.alloc ?_ _ | ((with_reducible refine BS.set ?_ ?_ ?_ _); rotate_left; (first | exact lS | exact lE | exact l3); (first | exact hasS.b.size | exact hasE.b.size | exact has.b.size)))))
      (first | (go_at_call 37; (with_reducible refine (example_walk _).mono ?_); rintro e wE ⟨d1, d2, d3, d4, rfl, LE, hbE⟩; have hasE := BS.below hbE (BS.one ‹BS w _ _ _ _ ∧ _›); have lE := hasE.q.lt; (try (have gC := (Blk.new w3.drew 33 #[.int .i64 0, .int .i64 0]).below hbE (Blk.new w3.drew 33 #[.int .i64 0, .int .i64 0]).lt; have lC := gC.lt)); (try (have gC := (Blk.new w3 33 #[.int .i64 0, .int .i64 0]).drew.below hbE (Blk.new w3 33 #[.int .i64 0, .int .i64 0]).drew.lt; have lC := gC.lt))) | (go_at_call 23; (with_reducible refine (ex_step _ _ _ _ _ LE).mono ?_); rintro e wS ⟨rfl, hbS⟩; have hasS := BS.below hbS (BS.one ‹BS w _ _ _ _ ∧ _›); have lS := hasS.q.lt; (try (have gD := gC.below hbS gC.lt; have lD := gD.lt; have c0 := gD.c2.1; have c1 := gD.c2.2; have f0 := gD.frozen 0; have f1 := gD.frozen 1))) | (go_at_call 23; (with_reducible refine (ex_step _ _ _ _ _ (LE.new _)).mono ?_); rintro e wS ⟨rfl, hbS⟩; have hasS := BS.below hbS (BS.one ‹BS w _ _ _ _ ∧ _›); have lS := hasS.q.lt; have gD := (Blk.new wE 33 #[.int .i64 0, .int .i64 0]).below hbS (Blk.new wE 33 #[.int .i64 0, .int .i64 0]).lt; have lD := gD.lt; have c0 := gD.c2.1; have c1 := gD.c2.2; have f0 := gD.frozen 0; have f1 := gD.frozen 1))
    all_goals
      go_wp2_with fail
      go_meet
      case rel =>
        first
          | exact ⟨rfl, _, rfl, ⟨Blk.new wS _ _, hasS.b.alloc hasS.b.size _⟩⟩
          | exact ⟨rfl, _, rfl, ⟨(gD.set_ 0 _).set_ 1 _, (hasS.b.setCell (by first | exact hasE.b.size | exact has.b.size) _).setCell (by first | exact hasE.b.size | exact has.b.size) _⟩⟩
  case rest =>
    obtain ⟨rfl, b5, rfl, has5⟩ := hcut
    have l5 := has5.q.lt
    go_wp2_with fail
    go_cut [5, 6] from 22 to 27 (fun u5 u6 wx => u6 = .nilIface ∧ ∃ b, u5 = .pointer (some ⟨b, 0, none⟩) ∧ BD w wx b5 b 1000 200 0 100)
    case first =>
      go_region_held3 (fun w' => BS w w' b5 1000 200 ∧ w'.cell? ⟨b5, 0, none⟩ = some (.int .i64 1000) ∧ w'.cell? ⟨b5, 1, none⟩ = some (.int .i64 200))
        (first | (refine BS.all ?_; repeat (first | with_reducible exact has5 | with_reducible exact hasE | with_reducible exact hasS | with_reducible refine BS.drew ?_ | with_reducible refine BS.alloc ?_ _ | ((with_reducible refine BS.set ?_ ?_ ?_ _); rotate_left; (first | exact lS | exact lE | exact l5); (first | exact hasS.b.size | exact hasE.b.size | exact has5.b.size)))))
        (first | (go_at_call 37; (with_reducible refine (example_walk _).mono ?_); rintro e wE ⟨d1, d2, d3, d4, rfl, LE, hbE⟩; have hasE := BS.below hbE (BS.one ‹BS w _ _ _ _ ∧ _›); have lE := hasE.q.lt; (try (have gC := (Blk.new wc.drew 31 #[.int .i64 0, .int .i64 0]).below hbE (Blk.new wc.drew 31 #[.int .i64 0, .int .i64 0]).lt; have lC := gC.lt)); (try (have gC := (Blk.new wc 31 #[.int .i64 0, .int .i64 0]).drew.below hbE (Blk.new wc 31 #[.int .i64 0, .int .i64 0]).drew.lt; have lC := gC.lt))) | (go_at_call 18; (with_reducible refine (ex_currents _ _ _ _ _ LE).mono ?_); rintro e wS ⟨rfl, hbS⟩; have hasS := BS.below hbS (BS.one ‹BS w _ _ _ _ ∧ _›); have lS := hasS.q.lt; (try (have gD := gC.below hbS gC.lt; have lD := gD.lt; have c0 := gD.c2.1; have c1 := gD.c2.2; have f0 := gD.frozen 0; have f1 := gD.frozen 1))) | (go_at_call 18; (with_reducible refine (ex_currents _ _ _ _ _ (LE.new _)).mono ?_); rintro e wS ⟨rfl, hbS⟩; have hasS := BS.below hbS (BS.one ‹BS w _ _ _ _ ∧ _›); have lS := hasS.q.lt; have gD := (Blk.new wE 31 #[.int .i64 0, .int .i64 0]).below hbS (Blk.new wE 31 #[.int .i64 0, .int .i64 0]).lt; have lD := gD.lt; have c0 := gD.c2.1; have c1 := gD.c2.2; have f0 := gD.frozen 0; have f1 := gD.frozen 1))
      all_goals
        go_wp2_with fail
        go_meet
        case rel =>
          first
            | exact ⟨rfl, _, rfl, ⟨hasS.q.alloc _, Blk.new wS _ _, hasS.b.alloc hasS.b.size _⟩⟩
            | exact ⟨rfl, _, rfl, ⟨(hasS.q.far (by first | exact Nat.ne_of_lt lE | exact Nat.ne_of_lt l5) _).far (by first | exact Nat.ne_of_lt lE | exact Nat.ne_of_lt l5) _, (gD.set_ 0 _).set_ 1 _, (hasS.b.setCell (by first | exact hasE.b.size | exact has5.b.size) _).setCell (by first | exact hasE.b.size | exact has5.b.size) _⟩⟩
    case rest =>
      obtain ⟨rfl, b7, rfl, has7⟩ := hcut
      go_wp2_with fail
      go_region_held3 (fun w' => BD w w' b5 b7 1000 200 0 100 ∧ w'.cell? ⟨b5, 0, none⟩ = some (.int .i64 1000) ∧ w'.cell? ⟨b5, 1, none⟩ = some (.int .i64 200))
        (first | (refine BD.all ?_; repeat (first | with_reducible exact has7 | with_reducible exact hasE | with_reducible exact hasS | with_reducible refine BD.drew ?_)))
        (first | (go_at_call 37; (with_reducible refine (example_walk _).mono ?_); rintro e wE ⟨d1, d2, d3, d4, rfl, LE, hbE⟩; have hasE := BD.below hbE (BD.one ‹BD w _ _ _ _ _ _ _ ∧ _›)) | (go_at_call 19; (with_reducible refine (ex_torque _ _ _ _ _ LE).mono ?_); rintro e wS ⟨rfl, hbS⟩; have hasS := BD.below hbS (BD.one ‹BD w _ _ _ _ _ _ _ ∧ _›)))
      all_goals
        obtain ⟨s0, s1⟩ := hasS.q.c2
        obtain ⟨i0, i1⟩ := hasS.i.c2
        go_wp2
        go_ret
        exact ⟨rfl, hasS.b⟩
end Go.Proofs.Ytmmplfokidnpnaa
