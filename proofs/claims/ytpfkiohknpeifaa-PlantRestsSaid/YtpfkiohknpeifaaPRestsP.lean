/- Plain: the plant at rest stays at rest. -/
import Derived.Test.YtpfkiohknpeifaaPLaws
import Derived.Test.YtpfkiohknpeifaaPlainC
namespace Go.Proofs.Ytpfkiohknpeifaa
open Go.RowKit
/-- The plant at rest. -/
def rS (P : Pc) (amb : Int) : Ps := ⟨P.m.m, 0, P.l.sup, false, 0, 0, [warmV amb, warmV amb, warmV amb], 0⟩
/-- An input with all switches off. -/
def rZ (ld amb : Int) (de : Bool) : Pi := ⟨100, false, false, false, false, false, false, [], ld, amb, false, false, false, false, false, false, de, false⟩
theorem rZ_on (ld amb : Int) (de : Bool) : zOn (rZ ld amb de) = I.offs := by simp [zOn, rZ, I.offs]
theorem rZ_es (ld amb : Int) (de : Bool) : zEs (rZ ld amb de) = [] := rfl
theorem rest_code {P : Pc} (hp : plCode P = 0) (ld amb : Int) (de : Bool) : stCode P (rS P amb) (rZ ld amb de) = 0 := by
  have h3 : I.chk (rZ ld amb de).per (rZ ld amb de).es = 0 := I.chk_nil (per := 100) (by decide) (by decide)
  have h4 : I.shrt (rZ ld amb de).per (zOn (rZ ld amb de)) (zEs (rZ ld amb de)) = false := by
    rw [rZ_on, rZ_es]
    show I.shrt 100 I.offs [] = false
    rw [I.shrt_ok (I.chk_nil (per := 100) (by decide) (by decide))]
    exact I.short_off _
  have h5 : (rS P amb).h.length = 3 := rfl
  unfold stCode inCode
  rw [if_neg (by omega), if_neg (by omega), if_neg (by omega), if_neg (by rw [h4]; decide)]
theorem clip_at {n lo hi : Int} (h : lo ≤ n ∧ n ≤ hi) : clipI n lo hi = n := by unfold clipI; rw [if_neg (by omega), if_neg (by omega)]
section
variable {P : Pc} (hp : plCode P = 0) (amb : Int)
include hp
theorem rest_dev : devD P.m P.m.m = 0 ∧ devQ P.m 0 = 0 := by
  have ok := cf_ok (pl_ok hp).m
  have hm := ok.m
  have e1 := mc_ends ok.d
  have e2 := mc_ends ok.q
  unfold devD devQ
  rw [clip_at (n := P.m.m) (by omega), Int.sub_self, inX_same (X := P.m.dx) (x := 0) (by omega) (by omega), clip_at (n := 0) (by decide), inX_same (X := P.m.qx) (x := 0) (by omega) (by omega)]
  exact ⟨rfl, rfl⟩
theorem rest_cur : curD P.m P.m.m = 0 ∧ curQ P.m 0 = 0 := by
  have ok := cf_ok (pl_ok hp).m
  obtain ⟨h1, h2⟩ := rest_dev hp
  unfold curD curQ
  rw [h1, h2]
  exact ⟨ok.d.zero, ok.q.zero⟩
theorem rest_ph : cuA P (rS P amb) = 0 ∧ cuB P (rS P amb) = 0 ∧ cuC P (rS P amb) = 0 := by
  obtain ⟨h1, h2⟩ := rest_cur hp
  have e1 : phU P.m (rS P amb).fd (rS P amb).fq (angP (rS P amb).po) = 0 := by
    show phU P.m P.m.m 0 _ = 0
    unfold phU turnU
    rw [h1, h2, Int.mul_zero, Int.mul_zero]
    rfl
  have e2 : phV P.m (rS P amb).fd (rS P amb).fq (angP (rS P amb).po) = 0 := by
    show phV P.m P.m.m 0 _ = 0
    unfold phV turnV
    rw [h1, h2, Int.mul_zero, Int.mul_zero]
    rfl
  have a : cuA P (rS P amb) = 0 := e1
  have b : cuB P (rS P amb) = 0 := by unfold cuB; rw [e1, e2]; decide
  exact ⟨a, b, by unfold cuC; rw [a, b]; rfl⟩
theorem rest_torq : torq P.m P.m.m 0 = 0 := by
  obtain ⟨h1, h2⟩ := rest_cur hp
  obtain ⟨h3, h4⟩ := rest_dev hp
  unfold torq
  rw [h1, h2, h3, h4, Int.mul_zero, Int.zero_mul, Int.sub_zero, Int.mul_zero, Int.zero_tdiv]
  decide
theorem rest_flux (ld : Int) (de : Bool) : pxD P (rS P amb) (rZ ld amb de) = P.m.m ∧ pxQ P (rS P amb) (rZ ld amb de) = 0 := by
  have ok := cf_ok (pl_ok hp).m
  obtain ⟨h3, h4⟩ := rest_dev hp
  have hl : lenC P.m P.m.m 0 = 0 := by unfold lenC; rw [h3, h4]; decide
  have hf := ok.f
  constructor
  · unfold pxD elD
    rw [rZ_on, rZ_es, if_pos (by decide : offB I.offs [] = true)]
    show ofD P.m P.m.m 0 = _
    unfold ofD
    rw [hl, if_pos hf.1]
  · unfold pxQ elQ
    rw [rZ_on, rZ_es, if_pos (by decide : offB I.offs [] = true)]
    show ofQ P.m P.m.m 0 = _
    unfold ofQ
    rw [hl, if_pos hf.1]
theorem rest_speed {ld : Int} (hld : -P.y ≤ ld ∧ ld ≤ P.y) : nvV P.g P.d P.y 0 0 ld = 0 := by
  obtain ⟨_, _, hy⟩ := sh_ok (pl_ok hp).s
  unfold nvV spdV netV
  rw [clip_at (n := ld) (by omega), clip_at (n := 0) (by decide), clip_at (n := 0) (by decide), if_pos ⟨rfl, wiB_iff.2 (by omega)⟩]
theorem rest_link (de nb : Bool) : lkV P.l P.l.sup false 0 de nb = P.l.sup ∧ lkBr P.l P.l.sup false = false := by
  have ok := lk_ok (pl_ok hp).l
  have hs := ok.sup
  have hf := ok.fed
  have ho := ok.ord
  have hb : lkB P.l P.l.sup false = false := by unfold lkB; rw [if_neg (by omega)]; split <;> rfl
  unfold lkV lkBr
  rw [clip_at hs]
  refine ⟨?_, hb⟩
  unfold lkW lkN
  have e1 : lkS P.l P.l.sup de = 0 := by
    unfold lkS
    split
    · rfl
    · rw [Int.sub_self, Int.zero_mul, Int.zero_tdiv]; exact clip_at (by omega)
  have e2 : lkR P.l P.l.sup (lkB P.l P.l.sup false) nb = 0 := by unfold lkR; rw [hb, if_neg (fun h => by cases h.1)]
  rw [e1, e2, clip_at (n := 0) (by decide)]
  simp only [Int.sub_zero, Int.zero_mul, Int.zero_tdiv, Int.add_zero]
  exact clip_at hs
omit hp in
theorem rest_heat : stps P.h [warmV amb, warmV amb, warmV amb] [0, 0, 0] amb 3 = [warmV amb, warmV amb, warmV amb] := by
  have hw := warmV_bd amb
  have hh : ∀ i, i < 3 → hcl [warmV amb, warmV amb, warmV amb] i = warmV amb := by
    intro i hi
    unfold hcl
    rcases (by omega : i = 0 ∨ i = 1 ∨ i = 2) with rfl | rfl | rfl <;> exact clip_at (n := warmV amb) (by omega)
  have h1 : ∀ i, i < 3 → stpV P.h [warmV amb, warmV amb, warmV amb] [0, 0, 0] amb i = warmV amb := by
    intro i hi
    have e0 := hh i hi
    have e1 : hfl P.h [warmV amb, warmV amb, warmV amb] amb i 3 = 0 := by
      unfold hfl
      simp only [sumN]
      rw [e0, hh 0 (by omega), hh 1 (by omega), hh 2 (by omega), Int.sub_self]
      simp only [Int.mul_zero, Int.add_zero]
    have e2 : clipI (g [0, 0, 0] i) 0 1073741824 = 0 := by rcases (by omega : i = 0 ∨ i = 1 ∨ i = 2) with rfl | rfl | rfl <;> decide
    unfold stpV
    rw [e1, e2, e0, Int.mul_zero, show warmV amb + 0 / 65536 + 0 = warmV amb by omega]
    exact clip_at (by omega)
  simp only [stps, List.range, List.range.loop, List.map_cons, List.map_nil, h1 0 (by omega), h1 1 (by omega), h1 2 (by omega)]
theorem rest_step {ld : Int} (hld : -P.y ≤ ld ∧ ld ≤ P.y) (de : Bool) : pxS P (rS P amb) (rZ ld amb de) = rS P amb := by
  obtain ⟨f1, f2⟩ := rest_flux hp amb ld de
  obtain ⟨c1, c2, c3⟩ := rest_ph hp amb
  have ht : pxT P (rS P amb) (rZ ld amb de) = 0 := by unfold pxT; rw [f1, f2]; exact rest_torq hp
  have hw : pxW P (rS P amb) (rZ ld amb de) = 0 := by
    unfold pxW
    rw [c1, c2, c3]
    unfold I.drawP
    split
    · unfold I.drawF I.amp
      rw [show I.clipI 0 (-2097152) 2097152 = 0 from by decide, Int.mul_zero, Int.mul_zero, Int.mul_zero]
      simp
    · rfl
  have hv : nvV P.g P.d P.y (rS P amb).sp (pxT P (rS P amb) (rZ ld amb de)) (rZ ld amb de).ld = 0 := by rw [ht]; exact rest_speed hp hld
  have hpo : npV P.g P.d P.y (rS P amb).po (rS P amb).sp (pxT P (rS P amb) (rZ ld amb de)) (rZ ld amb de).ld = 0 := by
    unfold npV; rw [hv]; show wrapP (0 + 0) = 0; decide
  have hl := rest_link hp (rZ ld amb de).de (rZ ld amb de).nb
  have hls : ∀ f : Int, lossS 0 0 0 f = 0 := by
    intro f
    have e : lossV 0 f = 0 := by unfold lossV; rw [show clipI 0 (-1048576) 1048576 = 0 from by decide, Int.mul_zero, Int.zero_tdiv]
    unfold lossS
    simp only [e]
    decide
  have hh := rest_heat (P := P) amb
  unfold pxS
  rw [hw, hv, hpo, c1, c2, c3, hls, hls, f1, f2]
  show (⟨P.m.m, 0, lkV P.l P.l.sup false 0 de false, lkBr P.l P.l.sup false, 0, 0, stps P.h [warmV amb, warmV amb, warmV amb] [0, 0, 0] amb 3, difA (angP 0) (angP 0)⟩ : Ps) = _
  rw [hh, (rest_link hp de false).1, (rest_link hp de false).2]
  rfl
end
end Go.Proofs.Ytpfkiohknpeifaa
