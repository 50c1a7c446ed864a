/- Regions that draw their order, with guarded operations: as Multi, for operations that are wanted, and such as are not. -/
import Derived.Test.YtpfkiohknpeifaaGreatMulti
import Derived.Laws.Rows
namespace Go.Proofs.YtpfkiohknpeifaaGreat
open Go Go.RowKit
section
variable {P : Program} {ops : Array Oper} {Q : Exit → Act → World → Prop} {md : Region.Mode} {H M : Nat → Bool} {B : Nat}
theorem wpX_takeG {i : Nat} {o : Oper} {v : Value} {f : Nat} {listed : Array Bool} {a a' : Act} {w : World} (hi : ops[i]? = some o) (hg : Region.wanted o (yielded ops a.tmps) = true) (hB : takeB md ops H M listed i = true)
    (hQ : ∀ c a w, Q (.panic c) (a.put o.dst v) w → Q (.panic c) a w) (h1 : ∀ w', Below B w w' → yv P o a w' v) (ha : a.put o.dst v = a')
    (h2 : wpX P md ops Q H M B f (listed.setIfInBounds i true) a' w) : wpX P md ops Q H M B (f + 1) listed a w := by
  simp only [takeB, Bool.and_eq_true, Bool.not_eq_true', Bool.or_eq_true, hi, Option.map_some, Option.getD_some] at hB
  obtain ⟨⟨⟨⟨⟨b1, b2⟩, b3⟩, b4⟩, b5⟩, b6⟩ := hB
  have hst : ∀ w', Below B w w' → YieldsAt P ops w' o v a := fun w' hb => yieldsAt_yv hg (h1 w' hb)
  refine wpX_first (F := ops.size) hi (Region.noSelect_spec b5) hQ b4 f listed a w (shutB_spec b1) (Region.free_spec hi b3) (by simpa using b2) ?_ (ha ▸ h2)
  rcases b6 with b6 | b6
  · exact .inl (yields_move b6 (hst w (Below.refl B w)))
  · refine .inr ⟨hst, fun j h1 h2 h3 => ?_⟩
    have := List.all_eq_true.1 b6 j (List.mem_range.2 h1)
    simpa [h2, h3] using this
theorem yv_load_row {o : Oper} {a : Act} {w : World} (ty : TypeId) (x : Operand) (ho : o.op = .load ty x) (g : Nat) (hx : a.eval x = .pointer (some ⟨g, 0, none⟩)) (t : TypeId) (cs : Array Value) (fr : Nat × Nat) (d : TypeDesc)
    (hg : w.heap[g]? = some (.cells cs t fr)) (hu : P.underlying ty = some d) (hd : (match d with | .struct _ | .array _ _ => true | _ => false) = true) (hi : (P.info? ty).map (·.size) = some cs.size) : yv P o a w (.agg cs) := by
  unfold yv execOp
  simp only [ho, hx, Instr.loadAt, Instr.sureAddr, Sem.run_bind, Sem.run_pure, Result.andThen_ok, run_loadVar_row w g t ty cs fr d hg hu hd hi]
  exact ⟨rfl, rfl⟩
/-- The checks for passing over operation i now. -/
def skipB (md : Region.Mode) (ops : Array Oper) (H : Nat → Bool) (listed : Array Bool) (i : Nat) : Bool :=
  shutB md ops listed && (Region.ready md ops listed).contains i && Region.free md ops listed i && !H i && Region.noSelect ops
theorem wpX_skip {i : Nat} {o : Oper} {f : Nat} {listed : Array Bool} {a a' : Act} {w : World} (hi : ops[i]? = some o) (hg : Region.wanted o (yielded ops a.tmps) = false) (hB : skipB md ops H listed i = true)
    (hQ : ∀ c a w, Q (.panic c) (a.put o.dst undef) w → Q (.panic c) a w) (ha : a.put o.dst undef = a')
    (h2 : wpX P md ops Q H M B f (listed.setIfInBounds i true) a' w) : wpX P md ops Q H M B (f + 1) listed a w := by
  simp only [skipB, Bool.and_eq_true, Bool.not_eq_true'] at hB
  obtain ⟨⟨⟨⟨b1, b2⟩, b3⟩, b4⟩, b5⟩ := hB
  exact wpX_first (F := ops.size) hi (Region.noSelect_spec b5) hQ b4 f listed a w (shutB_spec b1) (Region.free_spec hi b3) (by simpa using b2) (.inl (.inr ⟨hg, rfl⟩)) (ha ▸ h2)
theorem wpX_mildG {i : Nat} {o : Oper} (hi : ops[i]? = some o) {f : Nat} {listed : Array Bool} {a : Act} {w : World} (hg : Region.wanted o (yielded ops a.tmps) = true) (h : mild P B o a w (fun a' w' => wpX P md ops Q H M B f listed a' w')) :
    wpOp P ops Q i (fun a' w' => (M i = true → Below B w w') ∧ wpX P md ops Q H M B f listed a' w') a w := by
  unfold wpOp
  simp only [hi]
  rw [if_pos hg]
  exact .inl (Oper.wp_mono (fun a' w' h' => ⟨fun _ => h'.1, h'.2⟩) (mild_wp h))
theorem wpX_oneG {i : Nat} {o : Oper} {f : Nat} {listed : Array Bool} {a : Act} {w : World} (hi : ops[i]? = some o) (hg : Region.wanted o (yielded ops a.tmps) = true) (hr : (decide (Region.ready md ops listed = [i]) && H i) = true)
    (h : mild P B o a w (fun a' w' => wpX P md ops Q H M B f (listed.setIfInBounds i true) a' w')) : wpX P md ops Q H M B (f + 1) listed a w := by
  simp only [Bool.and_eq_true, decide_eq_true_eq] at hr
  refine ⟨fun h0 => (by rw [hr.1] at h0; cases h0), fun j hj => ?_⟩
  rw [hr.1] at hj
  obtain rfl : j = i := by simpa using hj
  exact ⟨fun h0 => (by rw [hr.2] at h0; cases h0), fun _ => wpX_mildG hi hg h⟩
theorem wpX_twoG {i k : Nat} {o u : Oper} {f : Nat} {listed : Array Bool} {a : Act} {w : World} (hi : ops[i]? = some o) (hg : Region.wanted o (yielded ops a.tmps) = true) (hk : ops[k]? = some u) (hu : Region.wanted u (yielded ops a.tmps) = true) (hr : (decide (Region.ready md ops listed = [i, k]) && H i && H k) = true)
    (h : mild P B o a w (fun a' w' => wpX P md ops Q H M B f (listed.setIfInBounds i true) a' w'))
    (h' : mild P B u a w (fun a' w' => wpX P md ops Q H M B f (listed.setIfInBounds k true) a' w')) : wpX P md ops Q H M B (f + 1) listed a w := by
  simp only [Bool.and_eq_true, decide_eq_true_eq] at hr
  refine ⟨fun h0 => (by rw [hr.1.1] at h0; cases h0), fun j hj => ?_⟩
  rw [hr.1.1] at hj
  rcases (by simpa using hj : j = i ∨ j = k) with rfl | rfl
  · exact ⟨fun h0 => (by rw [hr.1.2] at h0; cases h0), fun _ => wpX_mildG hi hg h⟩
  · exact ⟨fun h0 => (by rw [hr.2] at h0; cases h0), fun _ => wpX_mildG hk hu h'⟩
end
end Go.Proofs.YtpfkiohknpeifaaGreat
