/- The plant: its numbers, how they lie in memory, what is wrong with it. -/
import Derived.Test.YtpfkiohknpeifaaGreatPLink
import Derived.Test.YtpfkiohknpeifaaGreatPPark
import Derived.Test.YtpfkiohknpeifaaGreatPHeatM
import Derived.Test.YtpfkiohknpeifaaGreatMStep
import Derived.Test.YtpfkiohknpeifaaGreatMOff
import Derived.Test.YtpfkiohknpeifaaGreatMPhase
import Derived.Test.YtpfkiohknpeifaaGreatMcC
import Derived.Test.YtpfkiohknpeifaaGreatMFadeP
import Derived.Test.YtpfkiohknpeifaaGreatIgC
import Derived.Test.YtpfkiohknpeifaaGreatBreak
namespace Go.Proofs.YtpfkiohknpeifaaGreat
open Go.RowKit
/-- The numbers of a plant. -/
structure Pc where
  m : Cf
  l : LkC
  g : Int
  d : Int
  y : Int
  h : Hc
  wi : Int
  sw : Int
/-- Where its slices lie. -/
structure Pa where
  A1 : Option Addr
  A2 : Option Addr
  A3 : Option Addr
  A4 : Option Addr
  B1 : Option Addr
  B2 : Option Addr
  B3 : Option Addr
  n1 : Nat
  n2 : Nat
  n3 : Nat
  n4 : Nat
  c1 : Nat
  c2 : Nat
  c3 : Nat
  c4 : Nat
  m1 : Nat
  m2 : Nat
  m3 : Nat
  d1 : Nat
  d2 : Nat
  d3 : Nat
  PA : Nat → Option Addr
  PC : Nat → Nat
/-- A state. -/
structure Ps where
  fd : Int
  fq : Int
  v : Int
  b : Bool
  po : Int
  sp : Int
  h : List Int
  tn : Int
/-- An input. -/
structure Pi where
  per : Int
  b0 : Bool
  b1 : Bool
  b2 : Bool
  b3 : Bool
  b4 : Bool
  b5 : Bool
  es : List I.Ed
  ld : Int
  amb : Int
  k0 : Bool
  k1 : Bool
  k2 : Bool
  k3 : Bool
  k4 : Bool
  k5 : Bool
  de : Bool
  nb : Bool
structure Py (w : World) (B : Nat) (P : Pc) (X : Pa) : Prop where
  m : Ly w B P.m X.A1 X.A2 X.A3 X.A4 X.n1 X.n2 X.n3 X.n4
  h : Hy w B P.h X.B1 X.B2 X.B3 X.m1 X.m2 X.m3 X.PA X.PC
section
variable {w w' : World} {B B' : Nat} {P : Pc} {X : Pa}
theorem Py.below (h : Py w B P X) (hb : Below B w w') : Py w' B P X := ⟨h.m.below hb, h.h.below hb⟩
theorem Py.more (h : Py w B P X) (hb : B ≤ B') : Py w B' P X := ⟨h.m.more hb, h.h.more hb⟩
theorem Py.alloc (h : Py w B P X) (hB : B ≤ w.heap.size) (o : Obj) : Py (w.alloc o) B P X := ⟨h.m.alloc hB o, h.h.alloc hB o⟩
theorem Py.to (h : Py w w.heap.size P X) (hb : Below w.heap.size w w') : Py w' w'.heap.size P X := ⟨h.m.to hb, h.h.to hb⟩
theorem Py.new (h : Py w w.heap.size P X) (o : Obj) : Py (w.alloc o) (w.alloc o).heap.size P X := ⟨h.m.new o, h.h.new o⟩
theorem Py.drew (h : Py w B P X) : Py w.drew B P X := ⟨h.m.drew, h.h.drew⟩
theorem Py.drewN (h : Py w B P X) (k : Nat) : Py (w.drewN k) B P X := ⟨h.m.drewN k, h.h.drewN k⟩
end
/-- What is wrong with a plant. -/
def plCode (P : Pc) : Int :=
  if cfCode P.m ≠ 0 then cfCode P.m else if lkCode P.l ≠ 0 then lkCode P.l else if shCode P.g P.d P.y ≠ 0 then shCode P.g P.d P.y
  else if htCode P.h ≠ 0 then htCode P.h else if P.h.G.length ≠ 3 then 11
  else if P.wi < 0 ∨ 1048576 < P.wi ∨ P.sw < 0 ∨ 1048576 < P.sw then 3 else 0
structure PlOk (P : Pc) : Prop where
  m : cfCode P.m = 0
  l : lkCode P.l = 0
  s : shCode P.g P.d P.y = 0
  h : htCode P.h = 0
  n : P.h.G.length = 3
  wi : 0 ≤ P.wi ∧ P.wi ≤ 1048576
  sw : 0 ≤ P.sw ∧ P.sw ≤ 1048576
theorem pl_ok {P : Pc} (h : plCode P = 0) : PlOk P := by
  unfold plCode at h
  split at h
  · omega
  split at h
  · omega
  split at h
  · omega
  split at h
  · omega
  split at h
  · omega
  split at h
  · omega
  exact ⟨by omega, by omega, by omega, by omega, by omega, by omega, by omega⟩
theorem pl_c1 {P : Pc} (h : cfCode P.m ≠ 0) : plCode P = cfCode P.m := if_pos h
theorem pl_c2 {P : Pc} (h1 : cfCode P.m = 0) (h : lkCode P.l ≠ 0) : plCode P = lkCode P.l := by unfold plCode; rw [if_neg (by omega), if_pos h]
theorem pl_c3 {P : Pc} (h1 : cfCode P.m = 0) (h2 : lkCode P.l = 0) (h : shCode P.g P.d P.y ≠ 0) : plCode P = shCode P.g P.d P.y := by unfold plCode; rw [if_neg (by omega), if_neg (by omega), if_pos h]
theorem pl_c4 {P : Pc} (h1 : cfCode P.m = 0) (h2 : lkCode P.l = 0) (h3 : shCode P.g P.d P.y = 0) (h : htCode P.h ≠ 0) : plCode P = htCode P.h := by unfold plCode; rw [if_neg (by omega), if_neg (by omega), if_neg (by omega), if_pos h]
theorem pl_c5 {P : Pc} (h1 : cfCode P.m = 0) (h2 : lkCode P.l = 0) (h3 : shCode P.g P.d P.y = 0) (h4 : htCode P.h = 0) (h : P.h.G.length ≠ 3) : plCode P = 11 := by unfold plCode; rw [if_neg (by omega), if_neg (by omega), if_neg (by omega), if_neg (by omega), if_pos h]
theorem pl_c6 {P : Pc} (h1 : cfCode P.m = 0) (h2 : lkCode P.l = 0) (h3 : shCode P.g P.d P.y = 0) (h4 : htCode P.h = 0) (h5 : P.h.G.length = 3) (h : P.wi < 0 ∨ 1048576 < P.wi ∨ P.sw < 0 ∨ 1048576 < P.sw) : plCode P = 3 := by unfold plCode; rw [if_neg (by omega), if_neg (by omega), if_neg (by omega), if_neg (by omega), if_neg (by omega), if_pos h]
theorem pl_c7 {P : Pc} (h1 : cfCode P.m = 0) (h2 : lkCode P.l = 0) (h3 : shCode P.g P.d P.y = 0) (h4 : htCode P.h = 0) (h5 : P.h.G.length = 3) (h : ¬ (P.wi < 0 ∨ 1048576 < P.wi ∨ P.sw < 0 ∨ 1048576 < P.sw)) : plCode P = 0 := by unfold plCode; rw [if_neg (by omega), if_neg (by omega), if_neg (by omega), if_neg (by omega), if_neg (by omega), if_neg h]
theorem errV_I (n : Int) : I.errV n = errV n := rfl
theorem gstartM (P : Pc) (X : Pa) (w : World) (L : Py w w.heap.size P X) (hc : cfCode P.m = 0) :
    Calls Tryz.prog 26 #[.agg #[.int .i64 P.m.r, .int .i64 P.m.m, .slice X.A1 X.n1 X.c1, .slice X.A2 X.n2 X.c2, .slice X.A3 X.n3 X.c3, .slice X.A4 X.n4 X.c4, .int .i64 P.m.p, .int .i64 P.m.s, .int .i64 P.m.f]] w fun e w' => e = .returned (.tuple #[.agg #[.int .i64 P.m.m, .int .i64 0], .nilIface]) ∧ Below w.heap.size w w' := by
  have h := L.m
  obtain ⟨a1, a2, a3, a4, e1, e2, e3, e4, e5, e6⟩ := h.ptrs (cf_ok hc)
  rw [e1, e2, e3, e4, e5, e6] at h ⊢
  exact startM P.m a1 a2 a3 a4 X.n1 X.n3 X.c1 X.c2 X.c3 X.c4  w h hc
theorem gcurM (P : Pc) (X : Pa) (fd fq : Int) (w : World) (L : Py w w.heap.size P X) (hc : cfCode P.m = 0) :
    Calls Tryz.prog 85 #[.agg #[.int .i64 P.m.r, .int .i64 P.m.m, .slice X.A1 X.n1 X.c1, .slice X.A2 X.n2 X.c2, .slice X.A3 X.n3 X.c3, .slice X.A4 X.n4 X.c4, .int .i64 P.m.p, .int .i64 P.m.s, .int .i64 P.m.f], .agg #[.int .i64 fd, .int .i64 fq]] w fun e w' => e = .returned (.tuple #[.agg #[.int .i64 (curD P.m fd), .int .i64 (curQ P.m fq)], .nilIface]) ∧ Below w.heap.size w w' := by
  have h := L.m
  obtain ⟨a1, a2, a3, a4, e1, e2, e3, e4, e5, e6⟩ := h.ptrs (cf_ok hc)
  rw [e1, e2, e3, e4, e5, e6] at h ⊢
  exact currentsM P.m a1 a2 a3 a4 X.n1 X.n3 X.c1 X.c2 X.c3 X.c4 fd fq w h hc
theorem gstepM (P : Pc) (X : Pa) (fd fq vd vq tn : Int) (w : World) (L : Py w w.heap.size P X) (hc : cfCode P.m = 0) :
    Calls Tryz.prog 93 #[.agg #[.int .i64 P.m.r, .int .i64 P.m.m, .slice X.A1 X.n1 X.c1, .slice X.A2 X.n2 X.c2, .slice X.A3 X.n3 X.c3, .slice X.A4 X.n4 X.c4, .int .i64 P.m.p, .int .i64 P.m.s, .int .i64 P.m.f], .agg #[.int .i64 fd, .int .i64 fq], .agg #[.int .i64 vd, .int .i64 vq, .int .i64 tn]] w fun e w' => e = .returned (.tuple #[.agg #[.int .i64 (P.m.m + inX P.m.dx (stD P.m fd fq vd tn - P.m.m)), .int .i64 (inX P.m.qx (stQ P.m fd fq vq tn))], .nilIface]) ∧ Below w.heap.size w w' := by
  have h := L.m
  obtain ⟨a1, a2, a3, a4, e1, e2, e3, e4, e5, e6⟩ := h.ptrs (cf_ok hc)
  rw [e1, e2, e3, e4, e5, e6] at h ⊢
  exact stepM P.m a1 a2 a3 a4 X.n1 X.n3 X.c1 X.c2 X.c3 X.c4 fd fq vd vq tn w h hc
theorem goffM (P : Pc) (X : Pa) (fd fq : Int) (w : World) (L : Py w w.heap.size P X) (hc : cfCode P.m = 0) :
    Calls Tryz.prog 91 #[.agg #[.int .i64 P.m.r, .int .i64 P.m.m, .slice X.A1 X.n1 X.c1, .slice X.A2 X.n2 X.c2, .slice X.A3 X.n3 X.c3, .slice X.A4 X.n4 X.c4, .int .i64 P.m.p, .int .i64 P.m.s, .int .i64 P.m.f], .agg #[.int .i64 fd, .int .i64 fq]] w fun e w' => e = .returned (.tuple #[.agg #[.int .i64 (ofD P.m fd fq), .int .i64 (ofQ P.m fd fq)], .nilIface]) ∧ Below w.heap.size w w' := by
  have h := L.m
  obtain ⟨a1, a2, a3, a4, e1, e2, e3, e4, e5, e6⟩ := h.ptrs (cf_ok hc)
  rw [e1, e2, e3, e4, e5, e6] at h ⊢
  exact offTM P.m a1 a2 a3 a4 X.n1 X.n3 X.c1 X.c2 X.c3 X.c4 fd fq w h hc
theorem gphaM (P : Pc) (X : Pa) (fd fq an : Int) (w : World) (L : Py w w.heap.size P X) (hc : cfCode P.m = 0) :
    Calls Tryz.prog 40 #[.agg #[.int .i64 P.m.r, .int .i64 P.m.m, .slice X.A1 X.n1 X.c1, .slice X.A2 X.n2 X.c2, .slice X.A3 X.n3 X.c3, .slice X.A4 X.n4 X.c4, .int .i64 P.m.p, .int .i64 P.m.s, .int .i64 P.m.f], .agg #[.int .i64 fd, .int .i64 fq], .int .i64 an] w fun e w' => e = .returned (.tuple #[.agg #[.int .i64 (phU P.m fd fq an), .int .i64 (phB (phU P.m fd fq an) (phV P.m fd fq an)), .int .i64 (-phU P.m fd fq an - phB (phU P.m fd fq an) (phV P.m fd fq an))], .nilIface]) ∧ Below w.heap.size w w' := by
  have h := L.m
  obtain ⟨a1, a2, a3, a4, e1, e2, e3, e4, e5, e6⟩ := h.ptrs (cf_ok hc)
  rw [e1, e2, e3, e4, e5, e6] at h ⊢
  exact phasesM P.m a1 a2 a3 a4 X.n1 X.n3 X.c1 X.c2 X.c3 X.c4 fd fq an w h hc
theorem gtorM (P : Pc) (X : Pa) (fd fq : Int) (w : World) (L : Py w w.heap.size P X) (hc : cfCode P.m = 0) :
    Calls Tryz.prog 42 #[.agg #[.int .i64 P.m.r, .int .i64 P.m.m, .slice X.A1 X.n1 X.c1, .slice X.A2 X.n2 X.c2, .slice X.A3 X.n3 X.c3, .slice X.A4 X.n4 X.c4, .int .i64 P.m.p, .int .i64 P.m.s, .int .i64 P.m.f], .agg #[.int .i64 fd, .int .i64 fq]] w fun e w' => e = .returned (.tuple #[.int .i64 (torq P.m fd fq), .nilIface]) ∧ Below w.heap.size w w' := by
  have h := L.m
  obtain ⟨a1, a2, a3, a4, e1, e2, e3, e4, e5, e6⟩ := h.ptrs (cf_ok hc)
  rw [e1, e2, e3, e4, e5, e6] at h ⊢
  exact torqueM P.m a1 a2 a3 a4 X.n1 X.n3 X.c1 X.c2 X.c3 X.c4 fd fq w h hc
end Go.Proofs.YtpfkiohknpeifaaGreat
