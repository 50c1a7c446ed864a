/- The plant: the state after a tick, plain. -/
import Derived.Test.YtpfkiohknpeifaaGreatPElec
import Derived.Test.YtpfkiohknpeifaaGreatPShaft3
namespace Go.Proofs.YtpfkiohknpeifaaGreat
open Go.RowKit
/-- The signals behind the broken switches. -/
def zOn (z : Pi) : List Bool := [z.b0 && !z.k0, z.b1 && !z.k1, z.b2 && !z.k2, z.b3 && !z.k3, z.b4 && !z.k4, z.b5 && !z.k5]
def zEs (z : Pi) : List I.Ed := I.brk [z.k0, z.k1, z.k2, z.k3, z.k4, z.k5] z.es
/-- What is wrong with a state and an input. -/
def inCode (s : Ps) (z : Pi) : Int := if s.h.length ≠ 3 then 11 else if I.chk z.per z.es ≠ 0 then I.chk z.per z.es else if I.shrt z.per (zOn z) (zEs z) = true then 15 else 0
def stCode (P : Pc) (s : Ps) (z : Pi) : Int := if plCode P ≠ 0 then plCode P else inCode s z
/-- The currents of the phases. -/
def cuA (P : Pc) (s : Ps) : Int := phU P.m s.fd s.fq (angP s.po)
def cuB (P : Pc) (s : Ps) : Int := phB (phU P.m s.fd s.fq (angP s.po)) (phV P.m s.fd s.fq (angP s.po))
def cuC (P : Pc) (s : Ps) : Int := -cuA P s - cuB P s
def pxD (P : Pc) (s : Ps) (z : Pi) : Int := elD P.m s.fd s.fq s.tn s.v z.per (zOn z) (zEs z) (angP s.po) (cuA P s) (cuB P s) (cuC P s)
def pxQ (P : Pc) (s : Ps) (z : Pi) : Int := elQ P.m s.fd s.fq s.tn s.v z.per (zOn z) (zEs z) (angP s.po) (cuA P s) (cuB P s) (cuC P s)
def pxT (P : Pc) (s : Ps) (z : Pi) : Int := torq P.m (pxD P s z) (pxQ P s z)
def pxW (P : Pc) (s : Ps) (z : Pi) : Int := I.drawP z.per (zOn z) (zEs z) (cuA P s) (cuB P s) (cuC P s)
/-- The state after a tick. -/
def pxS (P : Pc) (s : Ps) (z : Pi) : Ps where
  fd := pxD P s z
  fq := pxQ P s z
  v := lkV P.l s.v s.b (pxW P s z) z.de z.nb
  b := lkBr P.l s.v s.b
  po := npV P.g P.d P.y s.po s.sp (pxT P s z) z.ld
  sp := nvV P.g P.d P.y s.sp (pxT P s z) z.ld
  h := stps P.h s.h [lossS (cuA P s) (cuB P s) (cuC P s) P.wi, 0, lossS (cuA P s) (cuB P s) (cuC P s) P.sw] z.amb 3
  tn := difA (angP (npV P.g P.d P.y s.po s.sp (pxT P s z) z.ld)) (angP s.po)
structure InOk (s : Ps) (z : Pi) : Prop where
  n : s.h.length = 3
  c : I.chk z.per z.es = 0
  s : I.shrt z.per (zOn z) (zEs z) = false
theorem in_ok {s : Ps} {z : Pi} (h : inCode s z = 0) : InOk s z := by
  unfold inCode at h
  split at h
  · omega
  split at h
  · omega
  split at h
  · omega
  rename_i h1 h2 h3
  exact ⟨by omega, by omega, by simpa using h3⟩
theorem InOk.e {s : Ps} {z : Pi} (h : InOk s z) : I.err z.per (zOn z) (zEs z) = 0 := by
  have h1 := I.brk_chk [z.k0, z.k1, z.k2, z.k3, z.k4, z.k5] h.c
  have h2 := h.s
  exact I.err_zero h1 ((I.shrt_ok h1).symm.trans h2)
theorem angP_bd (p : Int) : 0 ≤ angP p ∧ angP p < 65536 := by unfold angP; omega
theorem sl_three {w : World} {g : Nat} {t : TypeId} {x y z : Int} {B : Nat} (h : Blk w g t #[.int .i64 x, .int .i64 y, .int .i64 z]) (hB : g < B) : Sl w B 1 (some ⟨g, 0, none⟩) (rows [x, y, z]) := by
  obtain ⟨k0, k1, k2⟩ := h.c3
  refine ⟨rows_len _, fun _ => ⟨_, rfl, hB, fun k r hr j u hu => ?_⟩⟩
  have hk : k < 3 := by
    have := (List.getElem?_eq_some_iff.1 hr).1
    simpa [rows] using this
  have hj : j = 0 := by
    have h1 : r.length = 1 := rows_len _ r (List.mem_of_getElem? hr)
    have := (List.getElem?_eq_some_iff.1 hu).1
    omega
  subst hj
  rcases (by omega : k = 0 ∨ k = 1 ∨ k = 2) with rfl | rfl | rfl <;> simp [rows] at hr <;> subst hr <;> simp at hu <;> subst hu <;> simpa [Addr.add] using by assumption
theorem load_ps {w : World} {g : Nat} {t : TypeId} {a b c d e f x y : Value} (h : Blk w g t #[a, b, c, d, e, f, x, y]) : (loadVar 47 ⟨g, 0, none⟩).run Tryz.prog w = .ok (.agg #[a, b, c, d, e, f, x, y]) w := by
  obtain ⟨k0, k1, k2, k3, k4, k5, k6, k7⟩ := h.c8
  simp [go_sem, k0, k1, k2, k3, k4, k5, k6, k7]
/-- Three witnesses, and what goes with them, apart from the rest. -/
theorem grp3 {α β γ : Type} {p q r : α → β → γ → Prop} {s : Prop} (h : ∃ a b c, p a b c ∧ q a b c ∧ r a b c ∧ s) : (∃ a b c, p a b c ∧ q a b c ∧ r a b c) ∧ s :=
  let ⟨a, b, c, h1, h2, h3, h4⟩ := h
  ⟨⟨a, b, c, h1, h2, h3⟩, h4⟩
theorem grp2 {α β : Type} {p q r : α → β → Prop} {s : Prop} (h : ∃ a b, p a b ∧ q a b ∧ r a b ∧ s) : (∃ a b, p a b ∧ q a b ∧ r a b) ∧ s :=
  let ⟨a, b, h1, h2, h3, h4⟩ := h
  ⟨⟨a, b, h1, h2, h3⟩, h4⟩
theorem elecM (P : Pc) (X : Pa) (s : Ps) (YA : Option Addr) (yn yc : Nat) (per : Int) (b0 b1 b2 b3 b4 b5 : Bool) (es : List I.Ed) (GA : Option Addr) (gn gc : Nat) (at_ a b c : Int) (w : World) (L : Py w w.heap.size P X) (hc : cfCode P.m = 0)
    (SG : Sl w w.heap.size 3 GA (es.map I.Ed.row)) (eg : gn = es.length) (gm : gn ≤ 1000000) (he : I.err per [b0, b1, b2, b3, b4, b5] es = 0) :
    Calls Tryz.prog 41 #[.agg #[.int .i64 P.m.r, .int .i64 P.m.m, .slice X.A1 X.n1 X.c1, .slice X.A2 X.n2 X.c2, .slice X.A3 X.n3 X.c3, .slice X.A4 X.n4 X.c4, .int .i64 P.m.p, .int .i64 P.m.s, .int .i64 P.m.f, .int .i64 P.l.num, .int .i64 P.l.den, .int .i64 P.l.sup, .int .i64 P.l.fed, .int .i64 P.l.ohm, .int .i64 P.l.bon, .int .i64 P.l.boff, .int .i64 P.l.bohm, .int .i64 P.g, .int .i64 P.d, .int .i64 P.y, .slice X.B1 X.m1 X.d1, .slice X.B2 X.m2 X.d2, .slice X.B3 X.m3 X.d3, .int .i64 P.wi, .int .i64 P.sw], .agg #[.int .i64 s.fd, .int .i64 s.fq, .int .i64 s.v, .bool s.b, .int .i64 s.po, .int .i64 s.sp, .slice YA yn yc, .int .i64 s.tn], .agg #[.int .i64 per, .bool b0, .bool b1, .bool b2, .bool b3, .bool b4, .bool b5, .slice GA gn gc], .int .i64 at_, .agg #[.int .i64 a, .int .i64 b, .int .i64 c]] w fun e w' =>
      e = .returned (.tuple #[.agg #[.int .i64 (elD P.m s.fd s.fq s.tn s.v per [b0, b1, b2, b3, b4, b5] es at_ a b c), .int .i64 (elQ P.m s.fd s.fq s.tn s.v per [b0, b1, b2, b3, b4, b5] es at_ a b c)], .int .i64 (I.drawP per [b0, b1, b2, b3, b4, b5] es a b c), .nilIface]) ∧ Below w.heap.size w w' := by
  have e : offB [b0, b1, b2, b3, b4, b5] es = I.allOff b0 b1 b2 b3 b4 b5 es := rfl
  unfold elD elQ
  rcases Bool.eq_false_or_eq_true (I.allOff b0 b1 b2 b3 b4 b5 es) with h1 | h1
  · rw [e, h1, if_pos rfl, if_pos rfl]
    exact elecM_1 P X s YA yn yc per b0 b1 b2 b3 b4 b5 es GA gn gc at_ a b c w L hc SG eg gm he h1
  · rw [e, h1, if_neg (by simp), if_neg (by simp)]
    exact elecM_2 P X s YA yn yc per b0 b1 b2 b3 b4 b5 es GA gn gc at_ a b c w L hc SG eg gm he h1
end Go.Proofs.YtpfkiohknpeifaaGreat
