/- Plain: all switches broken. -/
import Derived.Test.YtpfkiohknpeifaaPLaws
import Derived.Test.YtpfkiohknpeifaaPlainC
namespace Go.Proofs.Ytpfkiohknpeifaa
open Go.RowKit
theorem brk_all {per : Int} {es : List I.Ed} (h : I.Valid per es) : I.brk [true, true, true, true, true, true] es = [] := by
  unfold I.brk
  rw [List.filter_eq_nil_iff]
  intro x hx
  obtain ⟨i, hi, rfl⟩ := List.getElem_of_mem hx
  obtain ⟨_, _, h1, h2⟩ := h.ins i hi
  unfold I.keepE
  rcases (by omega : es[i].s = 0 ∨ es[i].s = 1 ∨ es[i].s = 2 ∨ es[i].s = 3 ∨ es[i].s = 4 ∨ es[i].s = 5) with e | e | e | e | e | e <;> rw [e] <;> decide
/-- The input with all switches broken, and that with all switches off. -/
def zBr (z : Pi) : Pi := ⟨z.per, z.b0, z.b1, z.b2, z.b3, z.b4, z.b5, z.es, z.ld, z.amb, true, true, true, true, true, true, z.de, z.nb⟩
def zOf (z : Pi) : Pi := ⟨z.per, false, false, false, false, false, false, [], z.ld, z.amb, false, false, false, false, false, false, z.de, z.nb⟩
theorem zOn_br (z : Pi) : zOn (zBr z) = I.offs := by simp [zOn, zBr, I.offs]
theorem zOn_of (z : Pi) : zOn (zOf z) = I.offs := by simp [zOn, zOf, I.offs]
theorem zEs_of (z : Pi) : zEs (zOf z) = [] := rfl
theorem zEs_br {z : Pi} (h : I.chk z.per z.es = 0) : zEs (zBr z) = [] := brk_all (I.chk_zero h).2.2
theorem fades_same {P : Pc} {s : Ps} {z : Pi} (h : I.chk z.per z.es = 0) : pxS P s (zOf z) = pxS P s (zBr z) := by
  have e1 := zOn_br z
  have e2 := zOn_of z
  have e3 := zEs_br h
  have e4 := zEs_of z
  unfold pxS pxT pxD pxQ pxW
  rw [e1, e2, e3, e4]
  rfl
theorem fades_code {P : Pc} {s : Ps} {z : Pi} (h : stCode P s (zBr z) = 0) : stCode P s (zOf z) = 0 := by
  obtain ⟨h1, h2⟩ := st_ok h
  obtain ⟨b1, b2, _⟩ := I.chk_zero h2.c
  have h3 : I.chk (zOf z).per (zOf z).es = 0 := I.chk_nil b1 b2
  have h4 : I.shrt (zOf z).per (zOn (zOf z)) (zEs (zOf z)) = false := by
    rw [zOn_of, zEs_of]
    show I.shrt z.per I.offs [] = false
    rw [I.shrt_ok (I.chk_nil (per := z.per) b1 b2)]
    exact I.short_off _
  unfold stCode inCode
  have h5 := h2.n
  rw [if_neg (by omega), if_neg (by omega), if_neg (by omega), if_neg (by rw [h4]; decide)]
theorem offs_off : offB I.offs [] = true := by decide
theorem fades_d {P : Pc} {s : Ps} {z : Pi} (h : I.chk z.per z.es = 0) : (pxS P s (zBr z)).fd = ofD P.m s.fd s.fq ∧ (pxS P s (zBr z)).fq = ofQ P.m s.fd s.fq := by
  have e1 := zOn_br z
  have e3 := zEs_br h
  constructor
  · show pxD P s (zBr z) = _
    unfold pxD elD
    rw [e1, e3, if_pos offs_off]
  · show pxQ P s (zBr z) = _
    unfold pxQ elQ
    rw [e1, e3, if_pos offs_off]
end Go.Proofs.Ytpfkiohknpeifaa
