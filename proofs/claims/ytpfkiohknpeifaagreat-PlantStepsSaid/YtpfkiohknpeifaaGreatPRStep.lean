/- The walk of the reference's Step of a plant. -/
import Derived.Test.YtpfkiohknpeifaaGreatPRRef
import Derived.Test.YtpfkiohknpeifaaGreatPStep
import Derived.Deep.Cut
namespace Go.Proofs.YtpfkiohknpeifaaGreat
open Go.RowKit
set_option maxRecDepth 100000 in
set_option maxHeartbeats 6400000 in
theorem rstepP_a (P : Pc) (X : Pa) (s : Ps) (YA : Option Addr) (yn yc : Nat) (z : Pi) (GA : Option Addr) (gn gc : Nat) (w : World) (L : Py w w.heap.size P X) (SY : Sl w w.heap.size 1 YA (rows s.h)) (ey : yn = s.h.length) (SG : Sl w w.heap.size 3 GA (z.es.map I.Ed.row)) (eg : gn = z.es.length) (gm : gn ≤ 1000000) (hc : plCode P = 0) (h3 : s.h.length = 3) (hk : I.chk z.per z.es = 0) (hs : I.shrt z.per (zOn z) (zEs z) = false) (hof : offB (zOn z) (zEs z) = true) :
    Calls Tryz.prog 16 #[.agg #[.int .i64 P.m.r, .int .i64 P.m.m, .slice X.A1 X.n1 X.c1, .slice X.A2 X.n2 X.c2, .slice X.A3 X.n3 X.c3, .slice X.A4 X.n4 X.c4, .int .i64 P.m.p, .int .i64 P.m.s, .int .i64 P.m.f, .int .i64 P.l.num, .int .i64 P.l.den, .int .i64 P.l.sup, .int .i64 P.l.fed, .int .i64 P.l.ohm, .int .i64 P.l.bon, .int .i64 P.l.boff, .int .i64 P.l.bohm, .int .i64 P.g, .int .i64 P.d, .int .i64 P.y, .slice X.B1 X.m1 X.d1, .slice X.B2 X.m2 X.d2, .slice X.B3 X.m3 X.d3, .int .i64 P.wi, .int .i64 P.sw], .agg #[.int .i64 s.fd, .int .i64 s.fq, .int .i64 s.v, .bool s.b, .int .i64 s.po, .int .i64 s.sp, .slice YA yn yc, .int .i64 s.tn], .agg #[.int .i64 z.per, .bool z.b0, .bool z.b1, .bool z.b2, .bool z.b3, .bool z.b4, .bool z.b5, .slice GA gn gc, .int .i64 z.ld, .int .i64 z.amb, .bool z.k0, .bool z.k1, .bool z.k2, .bool z.k3, .bool z.k4, .bool z.k5, .bool z.de, .bool z.nb]] w fun e w' => (∃ A c, e = .returned (.agg #[.int .i64 (pxS P s z).fd, .int .i64 (pxS P s z).fq, .int .i64 (pxS P s z).v, .bool (pxS P s z).b, .int .i64 (pxS P s z).po, .int .i64 (pxS P s z).sp, .slice A 3 c, .int .i64 (pxS P s z).tn]) ∧ Sl w' w'.heap.size 1 A (rows (pxS P s z).h)) ∧ Below w.heap.size w w' := by
  have ok := pl_ok hc
  obtain rfl : yn = 3 := by omega
  have k3 := fun (W : World) (h : Sl W W.heap.size 3 GA (z.es.map I.Ed.row)) => (I.rbreak_walk z.per z.b0 z.b1 z.b2 z.b3 z.b4 z.b5 z.k0 z.k1 z.k2 z.k3 z.k4 z.k5 GA gn gc z.es W h eg gm).mono fun _ _ q => grp3' q
  have hz : I.brk [z.k0, z.k1, z.k2, z.k3, z.k4, z.k5] z.es = zEs z := rfl
  simp only [hz] at k3
  have K3 := hide k3
  have hl := I.brk_length [z.k0, z.k1, z.k2, z.k3, z.k4, z.k5] z.es
  have hm : (zEs z).length ≤ 1000000 := by unfold zEs; omega
  have ho : [z.b0 && !z.k0, z.b1 && !z.k1, z.b2 && !z.k2, z.b3 && !z.k3, z.b4 && !z.k4, z.b5 && !z.k5] = zOn z := rfl
  clear k3 hl
  have he : I.err z.per (zOn z) (zEs z) = 0 := (show InOk s z from ⟨h3, hk, hs⟩).e
  have e1 := L.h.e1
  have m3 : X.m1 = 3 := by rw [e1]; exact ok.n
  have T0 := angP_bd s.po
  have k5 := fun (W : World) => angleR s.po s.sp W
  have k6 : ∀ (W : World) (h : Py W W.heap.size P X), Calls Tryz.prog 52 #[.agg #[.int .i64 P.m.r, .int .i64 P.m.m, .slice X.A1 X.n1 X.c1, .slice X.A2 X.n2 X.c2, .slice X.A3 X.n3 X.c3, .slice X.A4 X.n4 X.c4, .int .i64 P.m.p, .int .i64 P.m.s, .int .i64 P.m.f], .agg #[.int .i64 s.fd, .int .i64 s.fq], .int .i64 (angP s.po)] W fun e w' => e = .returned (.agg #[.int .i64 (cuA P s), .int .i64 (cuB P s), .int .i64 (cuC P s)]) ∧ Below W.heap.size W w' := fun W h => gphaR P X s.fd s.fq (angP s.po) W h ok.m
  have k7 := fun (W : World) (A' : Option Addr) (n' c' : Nat) (h : Sl W W.heap.size 3 A' ((zEs z).map I.Ed.row)) (en : n' = (zEs z).length) => I.rdraw_walk z.per (z.b0 && !z.k0) (z.b1 && !z.k1) (z.b2 && !z.k2) (z.b3 && !z.k3) (z.b4 && !z.k4) (z.b5 && !z.k5) A' n' c' (zEs z) (cuA P s) (cuB P s) (cuC P s) W h en (by omega) he
  have k8 := fun (W : World) (A' : Option Addr) (n' c' : Nat) (h : Sl W W.heap.size 3 A' ((zEs z).map I.Ed.row)) (en : n' = (zEs z).length) => I.rvector_walk z.per (z.b0 && !z.k0) (z.b1 && !z.k1) (z.b2 && !z.k2) (z.b3 && !z.k3) (z.b4 && !z.k4) (z.b5 && !z.k5) A' n' c' (zEs z) (cuA P s) (cuB P s) (cuC P s) s.v W h en (by omega) he
  have k9 := fun (W : World) (A' : Option Addr) (n' c' : Nat) (h : Sl W W.heap.size 3 A' ((zEs z).map I.Ed.row)) (en : n' = (zEs z).length) => I.rallOff_walk z.per (z.b0 && !z.k0) (z.b1 && !z.k1) (z.b2 && !z.k2) (z.b3 && !z.k3) (z.b4 && !z.k4) (z.b5 && !z.k5) A' n' c' (zEs z) W h en (by omega)
  have hob : I.allOff (z.b0 && !z.k0) (z.b1 && !z.k1) (z.b2 && !z.k2) (z.b3 && !z.k3) (z.b4 && !z.k4) (z.b5 && !z.k5) (zEs z) = offB (zOn z) (zEs z) := rfl
  simp only [hob, hof] at k9
  have vd : I.fwdA (I.voltP z.per (zOn z) (zEs z) 0 (cuA P s) s.v) (I.voltP z.per (zOn z) (zEs z) 1 (cuB P s) s.v) (I.voltP z.per (zOn z) (zEs z) 2 (cuC P s) s.v) = vecA z.per (zOn z) (zEs z) (cuA P s) (cuB P s) (cuC P s) s.v := rfl
  have vq : I.fwdB (I.voltP z.per (zOn z) (zEs z) 1 (cuB P s) s.v) (I.voltP z.per (zOn z) (zEs z) 2 (cuC P s) s.v) = vecB z.per (zOn z) (zEs z) (cuB P s) (cuC P s) s.v := rfl
  have bb := fwd_bd (I.voltP_bd (per := z.per) (on := zOn z) (es := zEs z) (leg := 0) (cur := cuA P s) (k := s.v)) (I.voltP_bd (per := z.per) (on := zOn z) (es := zEs z) (leg := 1) (cur := cuB P s) (k := s.v)) (I.voltP_bd (per := z.per) (on := zOn z) (es := zEs z) (leg := 2) (cur := cuC P s) (k := s.v))
  simp only [ho, vd, vq] at k8
  simp only [ho, ← I.draw_eq he] at k7
  rw [vd, vq] at bb
  have hMw : I.drawP z.per (zOn z) (zEs z) (cuA P s) (cuB P s) (cuC P s) = pxW P s z := rfl
  simp only [hMw] at k7
  have hMd : pxD P s z = ofD P.m s.fd s.fq := if_pos hof
  have hMq : pxQ P s z = ofQ P.m s.fd s.fq := if_pos hof
  obtain ⟨VA, hVA⟩ : ∃ x, vecA z.per (zOn z) (zEs z) (cuA P s) (cuB P s) (cuC P s) s.v = x := ⟨_, rfl⟩
  obtain ⟨VB, hVB⟩ : ∃ x, vecB z.per (zOn z) (zEs z) (cuB P s) (cuC P s) s.v = x := ⟨_, rfl⟩
  simp only [hVA, hVB] at k8 bb hMd hMq
  have k10 := fun (W : World) (h : Py W W.heap.size P X) => goffR P X s.fd s.fq W h ok.m
  simp only [← hMd, ← hMq] at k10
  have k13 := fun (W : World) (h : Py W W.heap.size P X) => gtorR P X (pxD P s z) (pxQ P s z) W h ok.m
  have hMt : torq P.m (pxD P s z) (pxQ P s z) = pxT P s z := rfl
  simp only [hMt] at k13
  have f1 : (pxS P s z).fd = pxD P s z := rfl
  have f2 : (pxS P s z).fq = pxQ P s z := rfl
  have f3 : (pxS P s z).v = lkV P.l s.v s.b (pxW P s z) z.de z.nb := rfl
  have f4 : (pxS P s z).b = lkBr P.l s.v s.b := rfl
  have f5 : (pxS P s z).po = npV P.g P.d P.y s.po s.sp (pxT P s z) z.ld := rfl
  have f6 : (pxS P s z).sp = nvV P.g P.d P.y s.sp (pxT P s z) z.ld := rfl
  have f7 : (pxS P s z).h = stps P.h s.h [lossS (cuA P s) (cuB P s) (cuC P s) P.wi, 0, lossS (cuA P s) (cuB P s) (cuC P s) P.sw] z.amb 3 := rfl
  have f8 : (pxS P s z).tn = difA (angP (npV P.g P.d P.y s.po s.sp (pxT P s z) z.ld)) (angP s.po) := rfl
  simp only [f1, f2, f3, f4, f5, f6, f7, f8]
  clear f1 f2 f3 f4 f5 f6 f7 f8 hMd hMq
  obtain ⟨M, hM⟩ : ∃ x, pxD P s z = x := ⟨_, rfl⟩
  obtain ⟨N, hN⟩ : ∃ x, pxQ P s z = x := ⟨_, rfl⟩
  obtain ⟨D, hD⟩ : ∃ x, pxW P s z = x := ⟨_, rfl⟩
  obtain ⟨TQ, hTQ⟩ : ∃ x, pxT P s z = x := ⟨_, rfl⟩
  simp only [hD] at k7
  simp only [hM, hN] at k10
  simp only [hM, hN, hTQ] at k13
  simp only [hM, hN, hD, hTQ]
  have k14 := fun (W : World) => sstepR P.g P.d P.y s.po s.sp TQ z.ld W ok.s
  obtain ⟨PO, hPO⟩ : ∃ x, npV P.g P.d P.y s.po s.sp TQ z.ld = x := ⟨_, rfl⟩
  obtain ⟨SP, hSP⟩ : ∃ x, nvV P.g P.d P.y s.sp TQ z.ld = x := ⟨_, rfl⟩
  simp only [hPO, hSP] at k14 ⊢
  have T1 := angP_bd PO
  have k15 := fun (W : World) => angleR PO SP W
  have k16 := fun (W : World) => difR (angP PO) (angP s.po) W T1 T0
  have k17 := fun (W : World) => lstepR P.l s.v s.b D z.de z.nb W ok.l
  obtain ⟨LV, hLV⟩ : ∃ x, lkV P.l s.v s.b D z.de z.nb = x := ⟨_, rfl⟩
  obtain ⟨LB, hLB⟩ : ∃ x, lkBr P.l s.v s.b = x := ⟨_, rfl⟩
  obtain ⟨T2, hT2⟩ : ∃ x, angP PO = x := ⟨_, rfl⟩
  obtain ⟨T, hT⟩ : ∃ x, angP s.po = x := ⟨_, rfl⟩
  simp only [hT2, hT] at k16 ⊢
  simp only [hT2] at k15
  simp only [hT] at k5 k6
  obtain ⟨TN, hTN⟩ : ∃ x, difA T2 T = x := ⟨_, rfl⟩
  simp only [hTN] at k16 ⊢
  simp only [hLV, hLB] at k17 ⊢
  have k18 := fun (W : World) => rlossR (cuA P s) (cuB P s) (cuC P s) P.wi W
  have k19 := fun (W : World) => rlossR (cuA P s) (cuB P s) (cuC P s) P.sw W
  obtain ⟨x, hx⟩ : ∃ x, lossS (cuA P s) (cuB P s) (cuC P s) P.wi = x := ⟨_, rfl⟩
  obtain ⟨y, hy⟩ : ∃ x, lossS (cuA P s) (cuB P s) (cuC P s) P.sw = x := ⟨_, rfl⟩
  simp only [hx] at k18 ⊢
  simp only [hy] at k19 ⊢
  obtain ⟨a, ha⟩ : ∃ x, cuA P s = x := ⟨_, rfl⟩
  obtain ⟨b, hb'⟩ : ∃ x, cuB P s = x := ⟨_, rfl⟩
  obtain ⟨c, hc'⟩ : ∃ x, cuC P s = x := ⟨_, rfl⟩
  simp only [ha, hb', hc'] at k6 k7 k8 k18 k19
  have k20 := fun (W : World) (g : Nat) (hL : Py W W.heap.size P X) (SX : Sl W W.heap.size 1 YA (rows s.h)) (SP : Sl W W.heap.size 1 (some ⟨g, 0, none⟩) (rows [x, 0, y])) => hstepR P.h X.B1 X.B2 X.B3 X.m1 X.m2 X.m3 X.d1 X.d2 X.d3 X.PA X.PC s.h [x, 0, y] YA (some ⟨g, 0, none⟩) 3 3 yc 3 z.amb W hL.h ok.h m3 SX SP h3.symm rfl rfl rfl
  have K5 := hide k5
  have K6 := hide k6
  have K7 := hide k7
  have K8 := hide k8
  have K9 := hide k9
  have K10 := hide k10
  have K13 := hide k13
  have K14 := hide k14
  have K15 := hide k15
  have K16 := hide k16
  have K17 := hide k17
  have K18 := hide k18
  have K19 := hide k19
  have K20 := hide k20
  clear k5 k6 k7 k8 k9 k10 k13 k14 k15 k16 k17 k18 k19 k20 hMw hMt hM hN hD hTQ hPO hSP hT2 hT hTN hLV hLB hx hy ha hb' hc' T0 T1 he e1 m3 ok hc hk hs h3 ey eg gm hz hm ho hob hof vd vq bb hVA hVB
  have HB := Below.refl w.heap.size w
  obtain ⟨w1, eW1, sW1, rc, hb⟩ := box w #[.int .i64 P.m.r, .int .i64 P.m.m, .slice X.A1 X.n1 X.c1, .slice X.A2 X.n2 X.c2, .slice X.A3 X.n3 X.c3, .slice X.A4 X.n4 X.c4, .int .i64 P.m.p, .int .i64 P.m.s, .int .i64 P.m.f, .int .i64 P.l.num, .int .i64 P.l.den, .int .i64 P.l.sup, .int .i64 P.l.fed, .int .i64 P.l.ohm, .int .i64 P.l.bon, .int .i64 P.l.boff, .int .i64 P.l.bohm, .int .i64 P.g, .int .i64 P.d, .int .i64 P.y, .slice X.B1 X.m1 X.d1, .slice X.B2 X.m2 X.d2, .slice X.B3 X.m3 X.d3, .int .i64 P.wi, .int .i64 P.sw] 35 (g := w.heap.size) rfl HB (by have := HB.size; omega)
  have Qrc : Hid (w.heap.size ≤ w.heap.size) := Lib.hid (by have := HB.size; omega)
  replace HB := hb
  clear hb
  obtain ⟨w2, eW2, sW2, rs, hb⟩ := box w1 #[.int .i64 s.fd, .int .i64 s.fq, .int .i64 s.v, .bool s.b, .int .i64 s.po, .int .i64 s.sp, .slice YA 3 yc, .int .i64 s.tn] 47 (g := w.heap.size + 1) sW1 HB (by have := HB.size; omega)
  have Qrs : Hid (w.heap.size ≤ w.heap.size + 1 ∧ w.heap.size < w.heap.size + 1) := Lib.hid ⟨by have := HB.size; omega, by have := rc.lt; omega⟩
  replace rc := rc.al eW2
  replace HB := hb
  clear hb
  obtain ⟨w3, eW3, sW3, ri, hb⟩ := box w2 #[.int .i64 z.per, .bool z.b0, .bool z.b1, .bool z.b2, .bool z.b3, .bool z.b4, .bool z.b5, .slice GA gn gc, .int .i64 z.ld, .int .i64 z.amb, .bool z.k0, .bool z.k1, .bool z.k2, .bool z.k3, .bool z.k4, .bool z.k5, .bool z.de, .bool z.nb] 53 (g := w.heap.size + 1 + 1) sW2 HB (by have := HB.size; omega)
  have Qri : Hid (w.heap.size ≤ w.heap.size + 1 + 1 ∧ w.heap.size < w.heap.size + 1 + 1 ∧ w.heap.size + 1 < w.heap.size + 1 + 1) := Lib.hid ⟨by have := HB.size; omega, by have := rc.lt; omega, by have := rs.lt; omega⟩
  replace rc := rc.al eW3
  replace rs := rs.al eW3
  replace HB := hb
  clear hb
  obtain ⟨w4, eW4, sW4, gz, hb⟩ := box w3 #[.int .i64 0, .int .i64 0, .int .i64 0, .bool false, .int .i64 0, .int .i64 0, .slice none 0 0, .int .i64 0] 47 (g := w.heap.size + 1 + 1 + 1) sW3 HB (by have := HB.size; omega)
  have Qgz : Hid (w.heap.size ≤ w.heap.size + 1 + 1 + 1 ∧ w.heap.size < w.heap.size + 1 + 1 + 1 ∧ w.heap.size + 1 < w.heap.size + 1 + 1 + 1 ∧ w.heap.size + 1 + 1 < w.heap.size + 1 + 1 + 1) := Lib.hid ⟨by have := HB.size; omega, by have := rc.lt; omega, by have := rs.lt; omega, by have := ri.lt; omega⟩
  replace rc := rc.al eW4
  replace rs := rs.al eW4
  replace ri := ri.al eW4
  replace HB := hb
  clear hb
  go_enter Tryz.func16, Tryz.ntmps16
  have ric0 := ri.cell 0
  have ric1 := ri.cell 1
  have ric2 := ri.cell 2
  have ric3 := ri.cell 3
  have ric4 := ri.cell 4
  have ric5 := ri.cell 5
  have ric6 := ri.cell 6
  have ric7 := ri.cell 7
  have ric10 := ri.cell 10
  have ric11 := ri.cell 11
  have ric12 := ri.cell 12
  have ric13 := ri.cell 13
  have ric14 := ri.cell 14
  have ric15 := ri.cell 15
  go_wp2_with fail
  with_reducible refine ((unhide K3) _ ((SG.below HB).more HB.size)).mono ?_
  rintro e w5 ⟨⟨A', n', c', rfl, en, SB⟩, hb⟩
  replace rc := rc.below hb rc.lt
  replace rs := rs.below hb rs.lt
  replace ri := ri.below hb ri.lt
  replace gz := gz.below hb gz.lt
  replace HB := HB.trans (hb.mono HB.size)
  clear hb
  clear ric0 ric1 ric2 ric3 ric4 ric5 ric6 ric7 ric10 ric11 ric12 ric13 ric14 ric15 eW1 sW1 eW2 sW2 eW3 sW3 eW4 sW4
  have EN := Lib.hid en
  clear en
  have HC := Below.refl w5.heap.size w5
  obtain ⟨w6, eW6, sW6, rb, hb⟩ := box w5 #[.int .i64 0, .bool false, .bool false, .bool false, .bool false, .bool false, .bool false, .slice none 0 0] 51 (g := w5.heap.size) rfl HB (by have := HB.size; omega)
  have Qrb : Hid (w.heap.size ≤ w5.heap.size ∧ w5.heap.size ≤ w5.heap.size ∧ w.heap.size < w5.heap.size ∧ w.heap.size + 1 < w5.heap.size ∧ w.heap.size + 1 + 1 < w5.heap.size ∧ w.heap.size + 1 + 1 + 1 < w5.heap.size) := Lib.hid ⟨by have := HB.size; omega, by have := HC.size; omega, by have := rc.lt; omega, by have := rs.lt; omega, by have := ri.lt; omega, by have := gz.lt; omega⟩
  replace rc := rc.al eW6
  replace rs := rs.al eW6
  replace ri := ri.al eW6
  replace gz := gz.al eW6
  replace HC : Below w5.heap.size w5 w6 := eW6 ▸ HC.alloc HC.size _
  replace HB := hb
  clear hb
  have qrc := Qrc.out
  have qrs := Qrs.out
  have qri := Qri.out
  have qgz := Qgz.out
  have qrb := Qrb.out
  have uHC := HC.size
  have rbo6 := rb
  obtain ⟨w7, eW7, sW7, hr, hb⟩ := rowX rb #[.int .i64 z.per, .bool (z.b0 && !z.k0), .bool (z.b1 && !z.k1), .bool (z.b2 && !z.k2), .bool (z.b3 && !z.k3), .bool (z.b4 && !z.k4), .bool (z.b5 && !z.k5), .slice A' n' c'] (n := w5.heap.size + 1) sW6 HB (by omega)
  replace rc := rc.rowTo eW7 (by omega)
  replace rs := rs.rowTo eW7 (by omega)
  replace ri := ri.rowTo eW7 (by omega)
  replace gz := gz.rowTo eW7 (by omega)
  replace rb := hr
  have HCo := HC
  replace HC : Below w5.heap.size w5 w7 := eW7 ▸ below_row HC (by omega)
  replace HB := hb
  clear hb hr qrc qrs qri qgz qrb uHC
  have rsc4 := rs.cell 4
  have rsc5 := rs.cell 5
  go_wp2_with (first | (refine wpList_store_row rfl 51 _ _ rfl (w5.heap.size) #[.int .i64 z.per, .bool (z.b0 && !z.k0), .bool (z.b1 && !z.k1), .bool (z.b2 && !z.k2), .bool (z.b3 && !z.k3), .bool (z.b4 && !z.k4), .bool (z.b5 && !z.k5), .slice A' n' c'] rfl rfl _ _ rbo6 (by kernel_rfl) (by kernel_rfl) (by kernel_rfl) ?_; try simp only [eW7]))
  with_reducible refine ((unhide K5) _).mono ?_
  rintro e w8 ⟨rfl, hb⟩
  replace rc := rc.below hb rc.lt
  replace rs := rs.below hb rs.lt
  replace ri := ri.below hb ri.lt
  replace gz := gz.below hb gz.lt
  replace rb := rb.below hb rb.lt
  replace HB := HB.trans (hb.mono HB.size)
  replace HC := HC.trans (hb.mono HC.size)
  clear hb
  clear rbo6 rsc4 rsc5 eW6 sW6 eW7 sW7
  have rcc0 := rc.cell 0
  have rcc1 := rc.cell 1
  have rcc2 := rc.cell 2
  have rcc3 := rc.cell 3
  have rcc4 := rc.cell 4
  have rcc5 := rc.cell 5
  have rcc6 := rc.cell 6
  have rcc7 := rc.cell 7
  have rcc8 := rc.cell 8
  have rsc0 := rs.cell 0
  have rsc1 := rs.cell 1
  go_wp2_with fail
  with_reducible refine ((unhide K6) _ ((L.below HB).more HB.size)).mono ?_
  rintro e w9 ⟨rfl, hb⟩
  replace rc := rc.below hb rc.lt
  replace rs := rs.below hb rs.lt
  replace ri := ri.below hb ri.lt
  replace gz := gz.below hb gz.lt
  replace rb := rb.below hb rb.lt
  replace HB := HB.trans (hb.mono HB.size)
  replace HC := HC.trans (hb.mono HC.size)
  clear hb
  clear rcc0 rcc1 rcc2 rcc3 rcc4 rcc5 rcc6 rcc7 rcc8 rsc0 rsc1
  obtain ⟨w10, eW10, sW10, ra, hb⟩ := box w9 #[.int .i64 0, .int .i64 0, .int .i64 0] 67 (g := w9.heap.size) rfl HB (by have := HB.size; omega)
  have Qra : Hid (w.heap.size ≤ w9.heap.size ∧ w5.heap.size ≤ w9.heap.size ∧ w.heap.size < w9.heap.size ∧ w.heap.size + 1 < w9.heap.size ∧ w.heap.size + 1 + 1 < w9.heap.size ∧ w.heap.size + 1 + 1 + 1 < w9.heap.size ∧ w5.heap.size < w9.heap.size) := Lib.hid ⟨by have := HB.size; omega, by have := HC.size; omega, by have := rc.lt; omega, by have := rs.lt; omega, by have := ri.lt; omega, by have := gz.lt; omega, by have := rb.lt; omega⟩
  replace rc := rc.al eW10
  replace rs := rs.al eW10
  replace ri := ri.al eW10
  replace gz := gz.al eW10
  replace rb := rb.al eW10
  replace HC : Below w5.heap.size w5 w10 := eW10 ▸ HC.alloc HC.size _
  replace HB := hb
  clear hb
  have qrc := Qrc.out
  have qrs := Qrs.out
  have qri := Qri.out
  have qgz := Qgz.out
  have qrb := Qrb.out
  have qra := Qra.out
  have uHC := HC.size
  have rao10 := ra
  obtain ⟨w11, eW11, sW11, hr, hb⟩ := rowX ra #[.int .i64 a, .int .i64 b, .int .i64 c] (n := w9.heap.size + 1) sW10 HB (by omega)
  replace rc := rc.rowTo eW11 (by omega)
  replace rs := rs.rowTo eW11 (by omega)
  replace ri := ri.rowTo eW11 (by omega)
  replace gz := gz.rowTo eW11 (by omega)
  replace rb := rb.rowTo eW11 (by omega)
  replace ra := hr
  have HCo := HC
  replace HC : Below w5.heap.size w5 w11 := eW11 ▸ below_row HC (by omega)
  replace HB := hb
  clear hb hr qrc qrs qri qgz qrb qra uHC
  go_wp2_with (first | (refine wpList_load_row rfl 51 _ rfl (w5.heap.size) rfl _ _ _ _ rb Tryz.underlying51 rfl (by kernel_rfl) ?_) | (refine wpList_load_row rfl 67 _ rfl (w9.heap.size) rfl _ _ _ _ ra Tryz.underlying67 rfl (by kernel_rfl) ?_) | (refine wpList_store_row rfl 67 _ _ rfl (w9.heap.size) #[.int .i64 a, .int .i64 b, .int .i64 c] rfl rfl _ _ rao10 (by kernel_rfl) (by kernel_rfl) (by kernel_rfl) ?_; try simp only [eW11]))
  with_reducible refine ((unhide K7) _ A' n' c' ((SB.below HC).more HC.size) EN.out).mono ?_
  rintro e w12 ⟨rfl, hb⟩
  replace rc := rc.below hb rc.lt
  replace rs := rs.below hb rs.lt
  replace ri := ri.below hb ri.lt
  replace gz := gz.below hb gz.lt
  replace rb := rb.below hb rb.lt
  replace ra := ra.below hb ra.lt
  replace HB := HB.trans (hb.mono HB.size)
  replace HC := HC.trans (hb.mono HC.size)
  clear hb
  clear rao10 eW10 sW10 eW11 sW11
  have rsc2 := rs.cell 2
  go_wp2_with (first | (refine wpList_load_row rfl 51 _ rfl (w5.heap.size) rfl _ _ _ _ rb Tryz.underlying51 rfl (by kernel_rfl) ?_) | (refine wpList_load_row rfl 67 _ rfl (w9.heap.size) rfl _ _ _ _ ra Tryz.underlying67 rfl (by kernel_rfl) ?_))
  with_reducible refine ((unhide K8) _ A' n' c' ((SB.below HC).more HC.size) EN.out).mono ?_
  rintro e w13 ⟨rfl, hb⟩
  replace rc := rc.below hb rc.lt
  replace rs := rs.below hb rs.lt
  replace ri := ri.below hb ri.lt
  replace gz := gz.below hb gz.lt
  replace rb := rb.below hb rb.lt
  replace ra := ra.below hb ra.lt
  replace HB := HB.trans (hb.mono HB.size)
  replace HC := HC.trans (hb.mono HC.size)
  clear hb
  clear rsc2
  obtain ⟨w14, eW14, sW14, rv, hb⟩ := box w13 #[.int .i64 0, .int .i64 0] 122 (g := w13.heap.size) rfl HB (by have := HB.size; omega)
  have Qrv : Hid (w.heap.size ≤ w13.heap.size ∧ w5.heap.size ≤ w13.heap.size ∧ w.heap.size < w13.heap.size ∧ w.heap.size + 1 < w13.heap.size ∧ w.heap.size + 1 + 1 < w13.heap.size ∧ w.heap.size + 1 + 1 + 1 < w13.heap.size ∧ w5.heap.size < w13.heap.size ∧ w9.heap.size < w13.heap.size) := Lib.hid ⟨by have := HB.size; omega, by have := HC.size; omega, by have := rc.lt; omega, by have := rs.lt; omega, by have := ri.lt; omega, by have := gz.lt; omega, by have := rb.lt; omega, by have := ra.lt; omega⟩
  replace rc := rc.al eW14
  replace rs := rs.al eW14
  replace ri := ri.al eW14
  replace gz := gz.al eW14
  replace rb := rb.al eW14
  replace ra := ra.al eW14
  replace HC : Below w5.heap.size w5 w14 := eW14 ▸ HC.alloc HC.size _
  replace HB := hb
  clear hb
  have qrc := Qrc.out
  have qrs := Qrs.out
  have qri := Qri.out
  have qgz := Qgz.out
  have qrb := Qrb.out
  have qra := Qra.out
  have qrv := Qrv.out
  have uHC := HC.size
  have rvo14 := rv
  obtain ⟨w15, eW15, sW15, hr, hb⟩ := rowX rv #[.int .i64 VA, .int .i64 VB] (n := w13.heap.size + 1) sW14 HB (by omega)
  replace rc := rc.rowTo eW15 (by omega)
  replace rs := rs.rowTo eW15 (by omega)
  replace ri := ri.rowTo eW15 (by omega)
  replace gz := gz.rowTo eW15 (by omega)
  replace rb := rb.rowTo eW15 (by omega)
  replace ra := ra.rowTo eW15 (by omega)
  replace rv := hr
  have HCo := HC
  replace HC : Below w5.heap.size w5 w15 := eW15 ▸ below_row HC (by omega)
  replace HB := hb
  clear hb hr qrc qrs qri qgz qrb qra qrv uHC
  obtain ⟨w16, eW16, sW16, rt, hb⟩ := box w15 #[.int .i64 0, .int .i64 0, .int .i64 0, .bool false, .int .i64 0, .int .i64 0, .slice none 0 0, .int .i64 0] 47 (g := w13.heap.size + 1) sW15 HB (by have := HB.size; omega)
  have Qrt : Hid (w.heap.size ≤ w13.heap.size + 1 ∧ w5.heap.size ≤ w13.heap.size + 1 ∧ w.heap.size < w13.heap.size + 1 ∧ w.heap.size + 1 < w13.heap.size + 1 ∧ w.heap.size + 1 + 1 < w13.heap.size + 1 ∧ w.heap.size + 1 + 1 + 1 < w13.heap.size + 1 ∧ w5.heap.size < w13.heap.size + 1 ∧ w9.heap.size < w13.heap.size + 1 ∧ w13.heap.size < w13.heap.size + 1) := Lib.hid ⟨by have := HB.size; omega, by have := HC.size; omega, by have := rc.lt; omega, by have := rs.lt; omega, by have := ri.lt; omega, by have := gz.lt; omega, by have := rb.lt; omega, by have := ra.lt; omega, by have := rv.lt; omega⟩
  replace rc := rc.al eW16
  replace rs := rs.al eW16
  replace ri := ri.al eW16
  replace gz := gz.al eW16
  replace rb := rb.al eW16
  replace ra := ra.al eW16
  replace rv := rv.al eW16
  replace HC : Below w5.heap.size w5 w16 := eW16 ▸ HC.alloc HC.size _
  replace HB := hb
  clear hb
  have qrc := Qrc.out
  have qrs := Qrs.out
  have qri := Qri.out
  have qgz := Qgz.out
  have qrb := Qrb.out
  have qra := Qra.out
  have qrv := Qrv.out
  have qrt := Qrt.out
  have uHC := HC.size
  have rto16 := rt
  obtain ⟨w17, eW17, sW17, hr, hb⟩ := rowX rt #[.int .i64 0, .int .i64 0, .int .i64 0, .bool false, .int .i64 0, .int .i64 0, .slice none 0 0, .int .i64 0] (n := w13.heap.size + 1 + 1) sW16 HB (by omega)
  replace rc := rc.rowTo eW17 (by omega)
  replace rs := rs.rowTo eW17 (by omega)
  replace ri := ri.rowTo eW17 (by omega)
  replace gz := gz.rowTo eW17 (by omega)
  replace rb := rb.rowTo eW17 (by omega)
  replace ra := ra.rowTo eW17 (by omega)
  replace rv := rv.rowTo eW17 (by omega)
  replace rt := hr
  have HCo := HC
  replace HC : Below w5.heap.size w5 w17 := eW17 ▸ below_row HC (by omega)
  replace HB := hb
  clear hb hr qrc qrs qri qgz qrb qra qrv qrt uHC
  go_wp2_with (first | (refine wpList_load_row rfl 51 _ rfl (w5.heap.size) rfl _ _ _ _ rb Tryz.underlying51 rfl (by kernel_rfl) ?_) | (refine wpList_store_row rfl 122 _ _ rfl (w13.heap.size) #[.int .i64 VA, .int .i64 VB] rfl rfl _ _ rvo14 (by kernel_rfl) (by kernel_rfl) (by kernel_rfl) ?_; try simp only [eW15]) | (refine wpList_store_row rfl 47 _ _ rfl (w13.heap.size + 1) #[.int .i64 0, .int .i64 0, .int .i64 0, .bool false, .int .i64 0, .int .i64 0, .slice none 0 0, .int .i64 0] rfl rfl _ _ rto16 (by kernel_rfl) (by kernel_rfl) (by kernel_rfl) ?_; try simp only [eW17]))
  with_reducible refine ((unhide K9) _ A' n' c' ((SB.below HC).more HC.size) EN.out).mono ?_
  rintro e w18 ⟨rfl, hb⟩
  replace rc := rc.below hb rc.lt
  replace rs := rs.below hb rs.lt
  replace ri := ri.below hb ri.lt
  replace gz := gz.below hb gz.lt
  replace rb := rb.below hb rb.lt
  replace ra := ra.below hb ra.lt
  replace rv := rv.below hb rv.lt
  replace rt := rt.below hb rt.lt
  replace HB := HB.trans (hb.mono HB.size)
  replace HC := HC.trans (hb.mono HC.size)
  clear hb
  clear rvo14 rto16 eW14 sW14 eW15 sW15 eW16 sW16 eW17 sW17
  clear HC
  have rcc0 := rc.cell 0
  have rcc1 := rc.cell 1
  have rcc2 := rc.cell 2
  have rcc3 := rc.cell 3
  have rcc4 := rc.cell 4
  have rcc5 := rc.cell 5
  have rcc6 := rc.cell 6
  have rcc7 := rc.cell 7
  have rcc8 := rc.cell 8
  have rsc0 := rs.cell 0
  have rsc1 := rs.cell 1
  go_wp2_with fail
  with_reducible refine ((unhide K10) _ ((L.below HB).more HB.size)).mono ?_
  rintro e w19 ⟨rfl, hb⟩
  replace rc := rc.below hb rc.lt
  replace rs := rs.below hb rs.lt
  replace ri := ri.below hb ri.lt
  replace gz := gz.below hb gz.lt
  replace rb := rb.below hb rb.lt
  replace ra := ra.below hb ra.lt
  replace rv := rv.below hb rv.lt
  replace rt := rt.below hb rt.lt
  replace HB := HB.trans (hb.mono HB.size)
  clear hb
  clear rcc0 rcc1 rcc2 rcc3 rcc4 rcc5 rcc6 rcc7 rcc8 rsc0 rsc1
  have rtc0 := rt.cell 0
  have rtc1 := rt.cell 1
  have rtc2 := rt.cell 2
  have rtc3 := rt.cell 3
  have rtc4 := rt.cell 4
  have rtc5 := rt.cell 5
  have rtc6 := rt.cell 6
  have rtc7 := rt.cell 7
  have fr0 := rt.frozen 0
  have fr1 := rt.frozen 1
  have qrc := Qrc.out
  have qrs := Qrs.out
  have qri := Qri.out
  have qgz := Qgz.out
  have qrb := Qrb.out
  have qra := Qra.out
  have qrv := Qrv.out
  have qrt := Qrt.out
  have nrc : ¬ w.heap.size = w13.heap.size + 1 := by omega
  have mrc : ¬ w13.heap.size + 1 = w.heap.size := by omega
  have nrs : ¬ w.heap.size + 1 = w13.heap.size + 1 := by omega
  have mrs : ¬ w13.heap.size + 1 = w.heap.size + 1 := by omega
  have nri : ¬ w.heap.size + 1 + 1 = w13.heap.size + 1 := by omega
  have mri : ¬ w13.heap.size + 1 = w.heap.size + 1 + 1 := by omega
  have ngz : ¬ w.heap.size + 1 + 1 + 1 = w13.heap.size + 1 := by omega
  have mgz : ¬ w13.heap.size + 1 = w.heap.size + 1 + 1 + 1 := by omega
  have nrb : ¬ w5.heap.size = w13.heap.size + 1 := by omega
  have mrb : ¬ w13.heap.size + 1 = w5.heap.size := by omega
  have nra : ¬ w9.heap.size = w13.heap.size + 1 := by omega
  have mra : ¬ w13.heap.size + 1 = w9.heap.size := by omega
  have nrv : ¬ w13.heap.size = w13.heap.size + 1 := by omega
  have mrv : ¬ w13.heap.size + 1 = w13.heap.size := by omega
  clear qrc qrs qri qgz qrb qra qrv qrt
  go_upto_region 11 with (fail)
  have qrc := Qrc.out
  have qrs := Qrs.out
  have qri := Qri.out
  have qgz := Qgz.out
  have qrb := Qrb.out
  have qra := Qra.out
  have qrv := Qrv.out
  have qrt := Qrt.out
  obtain ⟨w20, hw⟩ : ∃ W, ((w19.setCell ⟨w13.heap.size + 1, 0, none⟩ (.int .i64 M)).setCell ⟨w13.heap.size + 1, 1, none⟩ (.int .i64 N)) = W := ⟨_, rfl⟩
  replace rc : Blk w20 (w.heap.size) 35 #[.int .i64 P.m.r, .int .i64 P.m.m, .slice X.A1 X.n1 X.c1, .slice X.A2 X.n2 X.c2, .slice X.A3 X.n3 X.c3, .slice X.A4 X.n4 X.c4, .int .i64 P.m.p, .int .i64 P.m.s, .int .i64 P.m.f, .int .i64 P.l.num, .int .i64 P.l.den, .int .i64 P.l.sup, .int .i64 P.l.fed, .int .i64 P.l.ohm, .int .i64 P.l.bon, .int .i64 P.l.boff, .int .i64 P.l.bohm, .int .i64 P.g, .int .i64 P.d, .int .i64 P.y, .slice X.B1 X.m1 X.d1, .slice X.B2 X.m2 X.d2, .slice X.B3 X.m3 X.d3, .int .i64 P.wi, .int .i64 P.sw] := hw ▸ ((rc.far (by simp <;> omega) _).far (by simp <;> omega) _)
  replace rs : Blk w20 (w.heap.size + 1) 47 #[.int .i64 s.fd, .int .i64 s.fq, .int .i64 s.v, .bool s.b, .int .i64 s.po, .int .i64 s.sp, .slice YA 3 yc, .int .i64 s.tn] := hw ▸ ((rs.far (by simp <;> omega) _).far (by simp <;> omega) _)
  replace ri : Blk w20 (w.heap.size + 1 + 1) 53 #[.int .i64 z.per, .bool z.b0, .bool z.b1, .bool z.b2, .bool z.b3, .bool z.b4, .bool z.b5, .slice GA gn gc, .int .i64 z.ld, .int .i64 z.amb, .bool z.k0, .bool z.k1, .bool z.k2, .bool z.k3, .bool z.k4, .bool z.k5, .bool z.de, .bool z.nb] := hw ▸ ((ri.far (by simp <;> omega) _).far (by simp <;> omega) _)
  replace gz : Blk w20 (w.heap.size + 1 + 1 + 1) 47 #[.int .i64 0, .int .i64 0, .int .i64 0, .bool false, .int .i64 0, .int .i64 0, .slice none 0 0, .int .i64 0] := hw ▸ ((gz.far (by simp <;> omega) _).far (by simp <;> omega) _)
  replace rb : Blk w20 (w5.heap.size) 51 #[.int .i64 z.per, .bool (z.b0 && !z.k0), .bool (z.b1 && !z.k1), .bool (z.b2 && !z.k2), .bool (z.b3 && !z.k3), .bool (z.b4 && !z.k4), .bool (z.b5 && !z.k5), .slice A' n' c'] := hw ▸ ((rb.far (by simp <;> omega) _).far (by simp <;> omega) _)
  replace ra : Blk w20 (w9.heap.size) 67 #[.int .i64 a, .int .i64 b, .int .i64 c] := hw ▸ ((ra.far (by simp <;> omega) _).far (by simp <;> omega) _)
  replace rv : Blk w20 (w13.heap.size) 122 #[.int .i64 VA, .int .i64 VB] := hw ▸ ((rv.far (by simp <;> omega) _).far (by simp <;> omega) _)
  replace rt : Blk w20 (w13.heap.size + 1) 47 #[.int .i64 M, .int .i64 N, .int .i64 0, .bool false, .int .i64 0, .int .i64 0, .slice none 0 0, .int .i64 0] := hw ▸ ((rt.set_ 0 _).set_ 1 _)
  replace HB : Below w.heap.size w w20 := hw ▸ ((HB.setCell (by simp <;> omega) _).setCell (by simp <;> omega) _)
  simp only [hw]
  clear hw
  clear rtc0 rtc1 rtc2 rtc3 rtc4 rtc5 rtc6 rtc7 fr0 fr1 nrc mrc nrs mrs nri mri ngz mgz nrb mrb nra mra nrv mrv qrc qrs qri qgz qrb qra qrv qrt
  obtain ⟨w21, hw, sw⟩ := drewX w20
  replace rc : Blk w21 (w.heap.size) 35 #[.int .i64 P.m.r, .int .i64 P.m.m, .slice X.A1 X.n1 X.c1, .slice X.A2 X.n2 X.c2, .slice X.A3 X.n3 X.c3, .slice X.A4 X.n4 X.c4, .int .i64 P.m.p, .int .i64 P.m.s, .int .i64 P.m.f, .int .i64 P.l.num, .int .i64 P.l.den, .int .i64 P.l.sup, .int .i64 P.l.fed, .int .i64 P.l.ohm, .int .i64 P.l.bon, .int .i64 P.l.boff, .int .i64 P.l.bohm, .int .i64 P.g, .int .i64 P.d, .int .i64 P.y, .slice X.B1 X.m1 X.d1, .slice X.B2 X.m2 X.d2, .slice X.B3 X.m3 X.d3, .int .i64 P.wi, .int .i64 P.sw] := hw ▸ rc.drew
  have zrc := rc.lt
  replace rs : Blk w21 (w.heap.size + 1) 47 #[.int .i64 s.fd, .int .i64 s.fq, .int .i64 s.v, .bool s.b, .int .i64 s.po, .int .i64 s.sp, .slice YA 3 yc, .int .i64 s.tn] := hw ▸ rs.drew
  have zrs := rs.lt
  replace ri : Blk w21 (w.heap.size + 1 + 1) 53 #[.int .i64 z.per, .bool z.b0, .bool z.b1, .bool z.b2, .bool z.b3, .bool z.b4, .bool z.b5, .slice GA gn gc, .int .i64 z.ld, .int .i64 z.amb, .bool z.k0, .bool z.k1, .bool z.k2, .bool z.k3, .bool z.k4, .bool z.k5, .bool z.de, .bool z.nb] := hw ▸ ri.drew
  have zri := ri.lt
  replace gz : Blk w21 (w.heap.size + 1 + 1 + 1) 47 #[.int .i64 0, .int .i64 0, .int .i64 0, .bool false, .int .i64 0, .int .i64 0, .slice none 0 0, .int .i64 0] := hw ▸ gz.drew
  have zgz := gz.lt
  replace rb : Blk w21 (w5.heap.size) 51 #[.int .i64 z.per, .bool (z.b0 && !z.k0), .bool (z.b1 && !z.k1), .bool (z.b2 && !z.k2), .bool (z.b3 && !z.k3), .bool (z.b4 && !z.k4), .bool (z.b5 && !z.k5), .slice A' n' c'] := hw ▸ rb.drew
  have zrb := rb.lt
  replace ra : Blk w21 (w9.heap.size) 67 #[.int .i64 a, .int .i64 b, .int .i64 c] := hw ▸ ra.drew
  have zra := ra.lt
  replace rv : Blk w21 (w13.heap.size) 122 #[.int .i64 VA, .int .i64 VB] := hw ▸ rv.drew
  have zrv := rv.lt
  replace rt : Blk w21 (w13.heap.size + 1) 47 #[.int .i64 M, .int .i64 N, .int .i64 0, .bool false, .int .i64 0, .int .i64 0, .slice none 0 0, .int .i64 0] := hw ▸ rt.drew
  have zrt := rt.lt
  replace HB : Below w.heap.size w w21 := hw ▸ HB.drew
  refine wp_region_multi (fun i => [8, 12, 13, 14].contains i) (fun i => [8, 12].contains i) w21.heap.size (by kernel_rfl) ?_
  change wpX _ _ _ _ _ _ _ _ _ _ w20.drew
  rw [hw]
  clear hw sw
  have HR := Below.refl w21.heap.size w21
  apply wpX_take (i := 0) rfl rfl (by kernel_rfl) (fun _ _ _ h => h)
  · intro w' hb
    unfold yv
    go_simp
    simp only [yvUpon]
    exact ⟨trivial, rfl⟩
  · go_simp
    exact rfl
  apply wpX_take (i := 1) rfl rfl (by kernel_rfl) (fun _ _ _ h => h)
  · intro w' hb
    have yrc17 := (rc.below hb zrc).cell 17
    have yrc18 := (rc.below hb zrc).cell 18
    have yrc19 := (rc.below hb zrc).cell 19
    unfold yv
    go_simp
    simp only [yvUpon]
    exact ⟨trivial, rfl⟩
  · go_simp
    exact rfl
  apply wpX_take (i := 2) rfl rfl (by kernel_rfl) (fun _ _ _ h => h)
  · intro w' hb
    unfold yv
    go_simp
    simp only [yvUpon]
    exact ⟨trivial, rfl⟩
  · go_simp
    exact rfl
  apply wpX_take (i := 3) rfl rfl (by kernel_rfl) (fun _ _ _ h => h)
  · intro w' hb
    have yrs4 := (rs.below hb zrs).cell 4
    have yrs5 := (rs.below hb zrs).cell 5
    unfold yv
    go_simp
    simp only [yvUpon]
    exact ⟨trivial, rfl⟩
  · go_simp
    exact rfl
  apply wpX_take (i := 4) rfl rfl (by kernel_rfl) (fun _ _ _ h => h)
  · intro w' hb
    unfold yv
    go_simp
    simp only [yvUpon]
    exact ⟨trivial, rfl⟩
  · go_simp
    exact rfl
  apply wpX_take (i := 5) rfl rfl (by kernel_rfl) (fun _ _ _ h => h)
  · intro w' hb
    have yrc0 := (rc.below hb zrc).cell 0
    have yrc1 := (rc.below hb zrc).cell 1
    have yrc2 := (rc.below hb zrc).cell 2
    have yrc3 := (rc.below hb zrc).cell 3
    have yrc4 := (rc.below hb zrc).cell 4
    have yrc5 := (rc.below hb zrc).cell 5
    have yrc6 := (rc.below hb zrc).cell 6
    have yrc7 := (rc.below hb zrc).cell 7
    have yrc8 := (rc.below hb zrc).cell 8
    unfold yv
    go_simp
    simp only [yvUpon]
    exact ⟨trivial, rfl⟩
  · go_simp
    exact rfl
  apply wpX_take (i := 6) rfl rfl (by kernel_rfl) (fun _ _ _ h => h)
  · intro w' hb
    unfold yv
    go_simp
    simp only [yvUpon]
    exact ⟨trivial, rfl⟩
  · go_simp
    exact rfl
  apply wpX_take (i := 7) rfl rfl (by kernel_rfl) (fun _ _ _ h => h)
  · intro w' hb
    have yrt0 := (rt.below hb zrt).cell 0
    have yrt1 := (rt.below hb zrt).cell 1
    unfold yv
    go_simp
    simp only [yvUpon]
    exact ⟨trivial, rfl⟩
  · go_simp
    exact rfl
  apply wpX_take (i := 9) rfl rfl (by kernel_rfl) (fun _ _ _ h => h)
  · intro w' hb
    unfold yv
    go_simp
    simp only [yvUpon]
    exact ⟨trivial, rfl⟩
  · go_simp
    exact rfl
  apply wpX_take (i := 10) rfl rfl (by kernel_rfl) (fun _ _ _ h => h)
  · intro w' hb
    have yri8 := (ri.below hb zri).cell 8
    unfold yv
    go_simp
    simp only [yvUpon]
    exact ⟨trivial, rfl⟩
  · go_simp
    exact rfl
  apply wpX_one (i := 8) rfl rfl (by kernel_rfl)
  unfold mild
  go_simp
  simp only [mildUpon]
  refine ⟨trivial, ?_⟩
  with_reducible refine ((unhide K13) _ ((L.below HB).more HB.size)).mono ?_
  rintro e w22 ⟨rfl, hb⟩
  refine ⟨_, rfl, hb.mono HR.size, ?_⟩
  replace rc := rc.below hb rc.lt
  replace rs := rs.below hb rs.lt
  replace ri := ri.below hb ri.lt
  replace gz := gz.below hb gz.lt
  replace rb := rb.below hb rb.lt
  replace ra := ra.below hb ra.lt
  replace rv := rv.below hb rv.lt
  replace rt := rt.below hb rt.lt
  replace HB := HB.trans (hb.mono HB.size)
  replace HR := HR.trans (hb.mono HR.size)
  clear hb
  apply wpX_take (i := 11) rfl rfl (by kernel_rfl) (fun _ _ _ h => h)
  · intro w' hb
    unfold yv
    go_simp
    simp only [yvUpon]
    exact ⟨trivial, rfl⟩
  · go_simp
    exact rfl
  apply wpX_one (i := 12) rfl rfl (by kernel_rfl)
  unfold mild
  go_simp
  simp only [mildUpon]
  refine ⟨trivial, ?_⟩
  with_reducible refine ((unhide K14) _).mono ?_
  rintro e w23 ⟨rfl, hb⟩
  refine ⟨_, rfl, hb.mono HR.size, ?_⟩
  replace rc := rc.below hb rc.lt
  replace rs := rs.below hb rs.lt
  replace ri := ri.below hb ri.lt
  replace gz := gz.below hb gz.lt
  replace rb := rb.below hb rb.lt
  replace ra := ra.below hb ra.lt
  replace rv := rv.below hb rv.lt
  replace rt := rt.below hb rt.lt
  replace HB := HB.trans (hb.mono HB.size)
  replace HR := HR.trans (hb.mono HR.size)
  clear hb
  refine wpX_rest (k := 13) (by kernel_rfl) ?_
  simp only [List.drop_succ_cons, List.drop_zero]
  have rtc0 := rt.cell 0
  have rtc1 := rt.cell 1
  have rtc2 := rt.cell 2
  have rtc3 := rt.cell 3
  have rtc4 := rt.cell 4
  have rtc5 := rt.cell 5
  have rtc6 := rt.cell 6
  have rtc7 := rt.cell 7
  have fr4 := rt.frozen 4
  have fr5 := rt.frozen 5
  have qrc := Qrc.out
  have qrs := Qrs.out
  have qri := Qri.out
  have qgz := Qgz.out
  have qrb := Qrb.out
  have qra := Qra.out
  have qrv := Qrv.out
  have qrt := Qrt.out
  have nrc : ¬ w.heap.size = w13.heap.size + 1 := by omega
  have mrc : ¬ w13.heap.size + 1 = w.heap.size := by omega
  have nrs : ¬ w.heap.size + 1 = w13.heap.size + 1 := by omega
  have mrs : ¬ w13.heap.size + 1 = w.heap.size + 1 := by omega
  have nri : ¬ w.heap.size + 1 + 1 = w13.heap.size + 1 := by omega
  have mri : ¬ w13.heap.size + 1 = w.heap.size + 1 + 1 := by omega
  have ngz : ¬ w.heap.size + 1 + 1 + 1 = w13.heap.size + 1 := by omega
  have mgz : ¬ w13.heap.size + 1 = w.heap.size + 1 + 1 + 1 := by omega
  have nrb : ¬ w5.heap.size = w13.heap.size + 1 := by omega
  have mrb : ¬ w13.heap.size + 1 = w5.heap.size := by omega
  have nra : ¬ w9.heap.size = w13.heap.size + 1 := by omega
  have mra : ¬ w13.heap.size + 1 = w9.heap.size := by omega
  have nrv : ¬ w13.heap.size = w13.heap.size + 1 := by omega
  have mrv : ¬ w13.heap.size + 1 = w13.heap.size := by omega
  clear qrc qrs qri qgz qrb qra qrv qrt
  go_wp2_with fail
  have qrc := Qrc.out
  have qrs := Qrs.out
  have qri := Qri.out
  have qgz := Qgz.out
  have qrb := Qrb.out
  have qra := Qra.out
  have qrv := Qrv.out
  have qrt := Qrt.out
  obtain ⟨w24, hw⟩ : ∃ W, ((w23.setCell ⟨w13.heap.size + 1, 4, none⟩ (.int .i64 PO)).setCell ⟨w13.heap.size + 1, 5, none⟩ (.int .i64 SP)) = W := ⟨_, rfl⟩
  replace rc : Blk w24 (w.heap.size) 35 #[.int .i64 P.m.r, .int .i64 P.m.m, .slice X.A1 X.n1 X.c1, .slice X.A2 X.n2 X.c2, .slice X.A3 X.n3 X.c3, .slice X.A4 X.n4 X.c4, .int .i64 P.m.p, .int .i64 P.m.s, .int .i64 P.m.f, .int .i64 P.l.num, .int .i64 P.l.den, .int .i64 P.l.sup, .int .i64 P.l.fed, .int .i64 P.l.ohm, .int .i64 P.l.bon, .int .i64 P.l.boff, .int .i64 P.l.bohm, .int .i64 P.g, .int .i64 P.d, .int .i64 P.y, .slice X.B1 X.m1 X.d1, .slice X.B2 X.m2 X.d2, .slice X.B3 X.m3 X.d3, .int .i64 P.wi, .int .i64 P.sw] := hw ▸ ((rc.far (by simp <;> omega) _).far (by simp <;> omega) _)
  replace rs : Blk w24 (w.heap.size + 1) 47 #[.int .i64 s.fd, .int .i64 s.fq, .int .i64 s.v, .bool s.b, .int .i64 s.po, .int .i64 s.sp, .slice YA 3 yc, .int .i64 s.tn] := hw ▸ ((rs.far (by simp <;> omega) _).far (by simp <;> omega) _)
  replace ri : Blk w24 (w.heap.size + 1 + 1) 53 #[.int .i64 z.per, .bool z.b0, .bool z.b1, .bool z.b2, .bool z.b3, .bool z.b4, .bool z.b5, .slice GA gn gc, .int .i64 z.ld, .int .i64 z.amb, .bool z.k0, .bool z.k1, .bool z.k2, .bool z.k3, .bool z.k4, .bool z.k5, .bool z.de, .bool z.nb] := hw ▸ ((ri.far (by simp <;> omega) _).far (by simp <;> omega) _)
  replace gz : Blk w24 (w.heap.size + 1 + 1 + 1) 47 #[.int .i64 0, .int .i64 0, .int .i64 0, .bool false, .int .i64 0, .int .i64 0, .slice none 0 0, .int .i64 0] := hw ▸ ((gz.far (by simp <;> omega) _).far (by simp <;> omega) _)
  replace rb : Blk w24 (w5.heap.size) 51 #[.int .i64 z.per, .bool (z.b0 && !z.k0), .bool (z.b1 && !z.k1), .bool (z.b2 && !z.k2), .bool (z.b3 && !z.k3), .bool (z.b4 && !z.k4), .bool (z.b5 && !z.k5), .slice A' n' c'] := hw ▸ ((rb.far (by simp <;> omega) _).far (by simp <;> omega) _)
  replace ra : Blk w24 (w9.heap.size) 67 #[.int .i64 a, .int .i64 b, .int .i64 c] := hw ▸ ((ra.far (by simp <;> omega) _).far (by simp <;> omega) _)
  replace rv : Blk w24 (w13.heap.size) 122 #[.int .i64 VA, .int .i64 VB] := hw ▸ ((rv.far (by simp <;> omega) _).far (by simp <;> omega) _)
  replace rt : Blk w24 (w13.heap.size + 1) 47 #[.int .i64 M, .int .i64 N, .int .i64 0, .bool false, .int .i64 PO, .int .i64 SP, .slice none 0 0, .int .i64 0] := hw ▸ ((rt.set_ 4 _).set_ 5 _)
  replace HB : Below w.heap.size w w24 := hw ▸ ((HB.setCell (by simp <;> omega) _).setCell (by simp <;> omega) _)
  simp only [hw]
  clear hw
  clear rtc0 rtc1 rtc2 rtc3 rtc4 rtc5 rtc6 rtc7 fr4 fr5 nrc mrc nrs mrs nri mri ngz mgz nrb mrb nra mra nrv mrv qrc qrs qri qgz qrb qra qrv qrt
  with_reducible refine ((unhide K15) _).mono ?_
  rintro e w25 ⟨rfl, hb⟩
  replace rc := rc.below hb rc.lt
  replace rs := rs.below hb rs.lt
  replace ri := ri.below hb ri.lt
  replace gz := gz.below hb gz.lt
  replace rb := rb.below hb rb.lt
  replace ra := ra.below hb ra.lt
  replace rv := rv.below hb rv.lt
  replace rt := rt.below hb rt.lt
  replace HB := HB.trans (hb.mono HB.size)
  clear hb
  have rtc0 := rt.cell 0
  have rtc1 := rt.cell 1
  have rtc2 := rt.cell 2
  have rtc3 := rt.cell 3
  have rtc4 := rt.cell 4
  have rtc5 := rt.cell 5
  have rtc6 := rt.cell 6
  have rtc7 := rt.cell 7
  have rcc9 := rc.cell 9
  have rcc10 := rc.cell 10
  have rcc11 := rc.cell 11
  have rcc12 := rc.cell 12
  have rcc13 := rc.cell 13
  have rcc14 := rc.cell 14
  have rcc15 := rc.cell 15
  have rcc16 := rc.cell 16
  have rsc2 := rs.cell 2
  have rsc3 := rs.cell 3
  have ric16 := ri.cell 16
  have ric17 := ri.cell 17
  have fr7 := rt.frozen 7
  have qrc := Qrc.out
  have qrs := Qrs.out
  have qri := Qri.out
  have qgz := Qgz.out
  have qrb := Qrb.out
  have qra := Qra.out
  have qrv := Qrv.out
  have qrt := Qrt.out
  have nrc : ¬ w.heap.size = w13.heap.size + 1 := by omega
  have mrc : ¬ w13.heap.size + 1 = w.heap.size := by omega
  have nrs : ¬ w.heap.size + 1 = w13.heap.size + 1 := by omega
  have mrs : ¬ w13.heap.size + 1 = w.heap.size + 1 := by omega
  have nri : ¬ w.heap.size + 1 + 1 = w13.heap.size + 1 := by omega
  have mri : ¬ w13.heap.size + 1 = w.heap.size + 1 + 1 := by omega
  have ngz : ¬ w.heap.size + 1 + 1 + 1 = w13.heap.size + 1 := by omega
  have mgz : ¬ w13.heap.size + 1 = w.heap.size + 1 + 1 + 1 := by omega
  have nrb : ¬ w5.heap.size = w13.heap.size + 1 := by omega
  have mrb : ¬ w13.heap.size + 1 = w5.heap.size := by omega
  have nra : ¬ w9.heap.size = w13.heap.size + 1 := by omega
  have mra : ¬ w13.heap.size + 1 = w9.heap.size := by omega
  have nrv : ¬ w13.heap.size = w13.heap.size + 1 := by omega
  have mrv : ¬ w13.heap.size + 1 = w13.heap.size := by omega
  clear qrc qrs qri qgz qrb qra qrv qrt
  go_wp2_with (first | (first | (go_at_call 61; (with_reducible refine ((unhide K16) _).mono ?_); rintro e w' ⟨rfl, rfl⟩)))
  have qrc := Qrc.out
  have qrs := Qrs.out
  have qri := Qri.out
  have qgz := Qgz.out
  have qrb := Qrb.out
  have qra := Qra.out
  have qrv := Qrv.out
  have qrt := Qrt.out
  obtain ⟨w26, hw⟩ : ∃ W, (w25.setCell ⟨w13.heap.size + 1, 7, none⟩ (.int .i64 TN)) = W := ⟨_, rfl⟩
  replace rc : Blk w26 (w.heap.size) 35 #[.int .i64 P.m.r, .int .i64 P.m.m, .slice X.A1 X.n1 X.c1, .slice X.A2 X.n2 X.c2, .slice X.A3 X.n3 X.c3, .slice X.A4 X.n4 X.c4, .int .i64 P.m.p, .int .i64 P.m.s, .int .i64 P.m.f, .int .i64 P.l.num, .int .i64 P.l.den, .int .i64 P.l.sup, .int .i64 P.l.fed, .int .i64 P.l.ohm, .int .i64 P.l.bon, .int .i64 P.l.boff, .int .i64 P.l.bohm, .int .i64 P.g, .int .i64 P.d, .int .i64 P.y, .slice X.B1 X.m1 X.d1, .slice X.B2 X.m2 X.d2, .slice X.B3 X.m3 X.d3, .int .i64 P.wi, .int .i64 P.sw] := hw ▸ (rc.far (by simp <;> omega) _)
  replace rs : Blk w26 (w.heap.size + 1) 47 #[.int .i64 s.fd, .int .i64 s.fq, .int .i64 s.v, .bool s.b, .int .i64 s.po, .int .i64 s.sp, .slice YA 3 yc, .int .i64 s.tn] := hw ▸ (rs.far (by simp <;> omega) _)
  replace ri : Blk w26 (w.heap.size + 1 + 1) 53 #[.int .i64 z.per, .bool z.b0, .bool z.b1, .bool z.b2, .bool z.b3, .bool z.b4, .bool z.b5, .slice GA gn gc, .int .i64 z.ld, .int .i64 z.amb, .bool z.k0, .bool z.k1, .bool z.k2, .bool z.k3, .bool z.k4, .bool z.k5, .bool z.de, .bool z.nb] := hw ▸ (ri.far (by simp <;> omega) _)
  replace gz : Blk w26 (w.heap.size + 1 + 1 + 1) 47 #[.int .i64 0, .int .i64 0, .int .i64 0, .bool false, .int .i64 0, .int .i64 0, .slice none 0 0, .int .i64 0] := hw ▸ (gz.far (by simp <;> omega) _)
  replace rb : Blk w26 (w5.heap.size) 51 #[.int .i64 z.per, .bool (z.b0 && !z.k0), .bool (z.b1 && !z.k1), .bool (z.b2 && !z.k2), .bool (z.b3 && !z.k3), .bool (z.b4 && !z.k4), .bool (z.b5 && !z.k5), .slice A' n' c'] := hw ▸ (rb.far (by simp <;> omega) _)
  replace ra : Blk w26 (w9.heap.size) 67 #[.int .i64 a, .int .i64 b, .int .i64 c] := hw ▸ (ra.far (by simp <;> omega) _)
  replace rv : Blk w26 (w13.heap.size) 122 #[.int .i64 VA, .int .i64 VB] := hw ▸ (rv.far (by simp <;> omega) _)
  replace rt : Blk w26 (w13.heap.size + 1) 47 #[.int .i64 M, .int .i64 N, .int .i64 0, .bool false, .int .i64 PO, .int .i64 SP, .slice none 0 0, .int .i64 TN] := hw ▸ (rt.set_ 7 _)
  replace HB : Below w.heap.size w w26 := hw ▸ (HB.setCell (by simp <;> omega) _)
  simp only [hw]
  clear hw
  clear rtc0 rtc1 rtc2 rtc3 rtc4 rtc5 rtc6 rtc7 rcc9 rcc10 rcc11 rcc12 rcc13 rcc14 rcc15 rcc16 rsc2 rsc3 ric16 ric17 fr7 nrc mrc nrs mrs nri mri ngz mgz nrb mrb nra mra nrv mrv qrc qrs qri qgz qrb qra qrv qrt
  with_reducible refine ((unhide K17) _).mono ?_
  rintro e w27 ⟨rfl, hb⟩
  replace rc := rc.below hb rc.lt
  replace rs := rs.below hb rs.lt
  replace ri := ri.below hb ri.lt
  replace gz := gz.below hb gz.lt
  replace rb := rb.below hb rb.lt
  replace ra := ra.below hb ra.lt
  replace rv := rv.below hb rv.lt
  replace rt := rt.below hb rt.lt
  replace HB := HB.trans (hb.mono HB.size)
  clear hb
  have rtc0 := rt.cell 0
  have rtc1 := rt.cell 1
  have rtc2 := rt.cell 2
  have rtc3 := rt.cell 3
  have rtc4 := rt.cell 4
  have rtc5 := rt.cell 5
  have rtc6 := rt.cell 6
  have rtc7 := rt.cell 7
  have fr2 := rt.frozen 2
  have fr3 := rt.frozen 3
  have qrc := Qrc.out
  have qrs := Qrs.out
  have qri := Qri.out
  have qgz := Qgz.out
  have qrb := Qrb.out
  have qra := Qra.out
  have qrv := Qrv.out
  have qrt := Qrt.out
  have nrc : ¬ w.heap.size = w13.heap.size + 1 := by omega
  have mrc : ¬ w13.heap.size + 1 = w.heap.size := by omega
  have nrs : ¬ w.heap.size + 1 = w13.heap.size + 1 := by omega
  have mrs : ¬ w13.heap.size + 1 = w.heap.size + 1 := by omega
  have nri : ¬ w.heap.size + 1 + 1 = w13.heap.size + 1 := by omega
  have mri : ¬ w13.heap.size + 1 = w.heap.size + 1 + 1 := by omega
  have ngz : ¬ w.heap.size + 1 + 1 + 1 = w13.heap.size + 1 := by omega
  have mgz : ¬ w13.heap.size + 1 = w.heap.size + 1 + 1 + 1 := by omega
  have nrb : ¬ w5.heap.size = w13.heap.size + 1 := by omega
  have mrb : ¬ w13.heap.size + 1 = w5.heap.size := by omega
  have nra : ¬ w9.heap.size = w13.heap.size + 1 := by omega
  have mra : ¬ w13.heap.size + 1 = w9.heap.size := by omega
  have nrv : ¬ w13.heap.size = w13.heap.size + 1 := by omega
  have mrv : ¬ w13.heap.size + 1 = w13.heap.size := by omega
  clear qrc qrs qri qgz qrb qra qrv qrt
  go_upto_region 14 with (fail)
  have qrc := Qrc.out
  have qrs := Qrs.out
  have qri := Qri.out
  have qgz := Qgz.out
  have qrb := Qrb.out
  have qra := Qra.out
  have qrv := Qrv.out
  have qrt := Qrt.out
  obtain ⟨w28, hw⟩ : ∃ W, ((w27.setCell ⟨w13.heap.size + 1, 2, none⟩ (.int .i64 LV)).setCell ⟨w13.heap.size + 1, 3, none⟩ (.bool LB)) = W := ⟨_, rfl⟩
  replace rc : Blk w28 (w.heap.size) 35 #[.int .i64 P.m.r, .int .i64 P.m.m, .slice X.A1 X.n1 X.c1, .slice X.A2 X.n2 X.c2, .slice X.A3 X.n3 X.c3, .slice X.A4 X.n4 X.c4, .int .i64 P.m.p, .int .i64 P.m.s, .int .i64 P.m.f, .int .i64 P.l.num, .int .i64 P.l.den, .int .i64 P.l.sup, .int .i64 P.l.fed, .int .i64 P.l.ohm, .int .i64 P.l.bon, .int .i64 P.l.boff, .int .i64 P.l.bohm, .int .i64 P.g, .int .i64 P.d, .int .i64 P.y, .slice X.B1 X.m1 X.d1, .slice X.B2 X.m2 X.d2, .slice X.B3 X.m3 X.d3, .int .i64 P.wi, .int .i64 P.sw] := hw ▸ ((rc.far (by simp <;> omega) _).far (by simp <;> omega) _)
  replace rs : Blk w28 (w.heap.size + 1) 47 #[.int .i64 s.fd, .int .i64 s.fq, .int .i64 s.v, .bool s.b, .int .i64 s.po, .int .i64 s.sp, .slice YA 3 yc, .int .i64 s.tn] := hw ▸ ((rs.far (by simp <;> omega) _).far (by simp <;> omega) _)
  replace ri : Blk w28 (w.heap.size + 1 + 1) 53 #[.int .i64 z.per, .bool z.b0, .bool z.b1, .bool z.b2, .bool z.b3, .bool z.b4, .bool z.b5, .slice GA gn gc, .int .i64 z.ld, .int .i64 z.amb, .bool z.k0, .bool z.k1, .bool z.k2, .bool z.k3, .bool z.k4, .bool z.k5, .bool z.de, .bool z.nb] := hw ▸ ((ri.far (by simp <;> omega) _).far (by simp <;> omega) _)
  replace gz : Blk w28 (w.heap.size + 1 + 1 + 1) 47 #[.int .i64 0, .int .i64 0, .int .i64 0, .bool false, .int .i64 0, .int .i64 0, .slice none 0 0, .int .i64 0] := hw ▸ ((gz.far (by simp <;> omega) _).far (by simp <;> omega) _)
  replace rb : Blk w28 (w5.heap.size) 51 #[.int .i64 z.per, .bool (z.b0 && !z.k0), .bool (z.b1 && !z.k1), .bool (z.b2 && !z.k2), .bool (z.b3 && !z.k3), .bool (z.b4 && !z.k4), .bool (z.b5 && !z.k5), .slice A' n' c'] := hw ▸ ((rb.far (by simp <;> omega) _).far (by simp <;> omega) _)
  replace ra : Blk w28 (w9.heap.size) 67 #[.int .i64 a, .int .i64 b, .int .i64 c] := hw ▸ ((ra.far (by simp <;> omega) _).far (by simp <;> omega) _)
  replace rv : Blk w28 (w13.heap.size) 122 #[.int .i64 VA, .int .i64 VB] := hw ▸ ((rv.far (by simp <;> omega) _).far (by simp <;> omega) _)
  replace rt : Blk w28 (w13.heap.size + 1) 47 #[.int .i64 M, .int .i64 N, .int .i64 LV, .bool LB, .int .i64 PO, .int .i64 SP, .slice none 0 0, .int .i64 TN] := hw ▸ ((rt.set_ 2 _).set_ 3 _)
  replace HB : Below w.heap.size w w28 := hw ▸ ((HB.setCell (by simp <;> omega) _).setCell (by simp <;> omega) _)
  simp only [hw]
  clear hw
  clear rtc0 rtc1 rtc2 rtc3 rtc4 rtc5 rtc6 rtc7 fr2 fr3 nrc mrc nrs mrs nri mri ngz mgz nrb mrb nra mra nrv mrv qrc qrs qri qgz qrb qra qrv qrt
  obtain ⟨w29, hw, sw⟩ := drewX w28
  replace rc : Blk w29 (w.heap.size) 35 #[.int .i64 P.m.r, .int .i64 P.m.m, .slice X.A1 X.n1 X.c1, .slice X.A2 X.n2 X.c2, .slice X.A3 X.n3 X.c3, .slice X.A4 X.n4 X.c4, .int .i64 P.m.p, .int .i64 P.m.s, .int .i64 P.m.f, .int .i64 P.l.num, .int .i64 P.l.den, .int .i64 P.l.sup, .int .i64 P.l.fed, .int .i64 P.l.ohm, .int .i64 P.l.bon, .int .i64 P.l.boff, .int .i64 P.l.bohm, .int .i64 P.g, .int .i64 P.d, .int .i64 P.y, .slice X.B1 X.m1 X.d1, .slice X.B2 X.m2 X.d2, .slice X.B3 X.m3 X.d3, .int .i64 P.wi, .int .i64 P.sw] := hw ▸ rc.drew
  have zrc := rc.lt
  replace rs : Blk w29 (w.heap.size + 1) 47 #[.int .i64 s.fd, .int .i64 s.fq, .int .i64 s.v, .bool s.b, .int .i64 s.po, .int .i64 s.sp, .slice YA 3 yc, .int .i64 s.tn] := hw ▸ rs.drew
  have zrs := rs.lt
  replace ri : Blk w29 (w.heap.size + 1 + 1) 53 #[.int .i64 z.per, .bool z.b0, .bool z.b1, .bool z.b2, .bool z.b3, .bool z.b4, .bool z.b5, .slice GA gn gc, .int .i64 z.ld, .int .i64 z.amb, .bool z.k0, .bool z.k1, .bool z.k2, .bool z.k3, .bool z.k4, .bool z.k5, .bool z.de, .bool z.nb] := hw ▸ ri.drew
  have zri := ri.lt
  replace gz : Blk w29 (w.heap.size + 1 + 1 + 1) 47 #[.int .i64 0, .int .i64 0, .int .i64 0, .bool false, .int .i64 0, .int .i64 0, .slice none 0 0, .int .i64 0] := hw ▸ gz.drew
  have zgz := gz.lt
  replace rb : Blk w29 (w5.heap.size) 51 #[.int .i64 z.per, .bool (z.b0 && !z.k0), .bool (z.b1 && !z.k1), .bool (z.b2 && !z.k2), .bool (z.b3 && !z.k3), .bool (z.b4 && !z.k4), .bool (z.b5 && !z.k5), .slice A' n' c'] := hw ▸ rb.drew
  have zrb := rb.lt
  replace ra : Blk w29 (w9.heap.size) 67 #[.int .i64 a, .int .i64 b, .int .i64 c] := hw ▸ ra.drew
  have zra := ra.lt
  replace rv : Blk w29 (w13.heap.size) 122 #[.int .i64 VA, .int .i64 VB] := hw ▸ rv.drew
  have zrv := rv.lt
  replace rt : Blk w29 (w13.heap.size + 1) 47 #[.int .i64 M, .int .i64 N, .int .i64 LV, .bool LB, .int .i64 PO, .int .i64 SP, .slice none 0 0, .int .i64 TN] := hw ▸ rt.drew
  have zrt := rt.lt
  replace HB : Below w.heap.size w w29 := hw ▸ HB.drew
  refine wp_region_multi (fun i => [7, 11, 12, 15, 16, 17].contains i) (fun i => [7, 11, 12, 15].contains i) w29.heap.size (by kernel_rfl) ?_
  change wpX _ _ _ _ _ _ _ _ _ _ w28.drew
  rw [hw]
  clear hw sw
  have HR := Below.refl w29.heap.size w29
  apply wpX_take (i := 0) rfl rfl (by kernel_rfl) (fun _ _ _ h => h)
  · intro w' hb
    unfold yv
    go_simp
    simp only [yvUpon]
    exact ⟨trivial, rfl⟩
  · go_simp
    exact rfl
  apply wpX_take (i := 1) rfl rfl (by kernel_rfl) (fun _ _ _ h => h)
  · intro w' hb
    have yrc20 := (rc.below hb zrc).cell 20
    have yrc21 := (rc.below hb zrc).cell 21
    have yrc22 := (rc.below hb zrc).cell 22
    unfold yv
    go_simp
    simp only [yvUpon]
    exact ⟨trivial, rfl⟩
  · go_simp
    exact rfl
  apply wpX_take (i := 2) rfl rfl (by kernel_rfl) (fun _ _ _ h => h)
  · intro w' hb
    unfold yv
    go_simp
    simp only [yvUpon]
    exact ⟨trivial, rfl⟩
  · go_simp
    exact rfl
  apply wpX_take (i := 3) rfl rfl (by kernel_rfl) (fun _ _ _ h => h)
  · intro w' hb
    have yrs6 := (rs.below hb zrs).cell 6
    unfold yv
    go_simp
    simp only [yvUpon]
    exact ⟨trivial, rfl⟩
  · go_simp
    exact rfl
  apply wpX_take (i := 4) rfl rfl (by kernel_rfl) (fun _ _ _ h => h)
  · intro w' hb
    have yra0 := (ra.below hb zra).cell 0
    have yra1 := (ra.below hb zra).cell 1
    have yra2 := (ra.below hb zra).cell 2
    unfold yv
    go_simp
    simp only [yvUpon]
    exact ⟨trivial, rfl⟩
  · go_simp
    exact rfl
  apply wpX_take (i := 5) rfl rfl (by kernel_rfl) (fun _ _ _ h => h)
  · intro w' hb
    unfold yv
    go_simp
    simp only [yvUpon]
    exact ⟨trivial, rfl⟩
  · go_simp
    exact rfl
  apply wpX_take (i := 6) rfl rfl (by kernel_rfl) (fun _ _ _ h => h)
  · intro w' hb
    have yrc23 := (rc.below hb zrc).cell 23
    unfold yv
    go_simp
    simp only [yvUpon]
    exact ⟨trivial, rfl⟩
  · go_simp
    exact rfl
  apply wpX_take (i := 8) rfl rfl (by kernel_rfl) (fun _ _ _ h => h)
  · intro w' hb
    have yra0 := (ra.below hb zra).cell 0
    have yra1 := (ra.below hb zra).cell 1
    have yra2 := (ra.below hb zra).cell 2
    unfold yv
    go_simp
    simp only [yvUpon]
    exact ⟨trivial, rfl⟩
  · go_simp
    exact rfl
  apply wpX_take (i := 9) rfl rfl (by kernel_rfl) (fun _ _ _ h => h)
  · intro w' hb
    unfold yv
    go_simp
    simp only [yvUpon]
    exact ⟨trivial, rfl⟩
  · go_simp
    exact rfl
  apply wpX_take (i := 10) rfl rfl (by kernel_rfl) (fun _ _ _ h => h)
  · intro w' hb
    have yrc24 := (rc.below hb zrc).cell 24
    unfold yv
    go_simp
    simp only [yvUpon]
    exact ⟨trivial, rfl⟩
  · go_simp
    exact rfl
  apply wpX_take (i := 13) rfl rfl (by kernel_rfl) (fun _ _ _ h => h)
  · intro w' hb
    unfold yv
    go_simp
    simp only [yvUpon]
    exact ⟨trivial, rfl⟩
  · go_simp
    exact rfl
  apply wpX_take (i := 14) rfl rfl (by kernel_rfl) (fun _ _ _ h => h)
  · intro w' hb
    have yri9 := (ri.below hb zri).cell 9
    unfold yv
    go_simp
    simp only [yvUpon]
    exact ⟨trivial, rfl⟩
  · go_simp
    exact rfl
  apply wpX_one (i := 7) rfl rfl (by kernel_rfl)
  unfold mild
  go_simp
  simp only [mildUpon]
  refine ⟨trivial, ?_⟩
  with_reducible refine ((unhide K18) _).mono ?_
  rintro e w30 ⟨rfl, hb⟩
  refine ⟨_, rfl, hb.mono HR.size, ?_⟩
  replace rc := rc.below hb rc.lt
  replace rs := rs.below hb rs.lt
  replace ri := ri.below hb ri.lt
  replace gz := gz.below hb gz.lt
  replace rb := rb.below hb rb.lt
  replace ra := ra.below hb ra.lt
  replace rv := rv.below hb rv.lt
  replace rt := rt.below hb rt.lt
  replace HB := HB.trans (hb.mono HB.size)
  replace HR := HR.trans (hb.mono HR.size)
  clear hb
  apply wpX_one (i := 11) rfl rfl (by kernel_rfl)
  unfold mild
  go_simp
  simp only [mildUpon]
  refine ⟨trivial, ?_⟩
  with_reducible refine ((unhide K19) _).mono ?_
  rintro e w31 ⟨rfl, hb⟩
  refine ⟨_, rfl, hb.mono HR.size, ?_⟩
  replace rc := rc.below hb rc.lt
  replace rs := rs.below hb rs.lt
  replace ri := ri.below hb ri.lt
  replace gz := gz.below hb gz.lt
  replace rb := rb.below hb rb.lt
  replace ra := ra.below hb ra.lt
  replace rv := rv.below hb rv.lt
  replace rt := rt.below hb rt.lt
  replace HB := HB.trans (hb.mono HB.size)
  replace HR := HR.trans (hb.mono HR.size)
  clear hb
  apply wpX_one (i := 12) rfl rfl (by kernel_rfl)
  unfold mild
  go_simp
  simp only [mildUpon]
  refine ⟨(Below.refl _ _).alloc HR.size _, ?_⟩
  obtain ⟨w32, eW32, sW32, rp, hb⟩ := box w31 #[.int .i64 x, .int .i64 0, .int .i64 y] 3 (g := w31.heap.size) rfl HB (by have := HB.size; omega)
  have Qrp : Hid (w.heap.size ≤ w31.heap.size ∧ w29.heap.size ≤ w31.heap.size ∧ w.heap.size < w31.heap.size ∧ w.heap.size + 1 < w31.heap.size ∧ w.heap.size + 1 + 1 < w31.heap.size ∧ w.heap.size + 1 + 1 + 1 < w31.heap.size ∧ w5.heap.size < w31.heap.size ∧ w9.heap.size < w31.heap.size ∧ w13.heap.size < w31.heap.size ∧ w13.heap.size + 1 < w31.heap.size) := Lib.hid ⟨by have := HB.size; omega, by have := HR.size; omega, by have := rc.lt; omega, by have := rs.lt; omega, by have := ri.lt; omega, by have := gz.lt; omega, by have := rb.lt; omega, by have := ra.lt; omega, by have := rv.lt; omega, by have := rt.lt; omega⟩
  replace rc := rc.al eW32
  replace rs := rs.al eW32
  replace ri := ri.al eW32
  replace gz := gz.al eW32
  replace rb := rb.al eW32
  replace ra := ra.al eW32
  replace rv := rv.al eW32
  replace rt := rt.al eW32
  replace HR : Below w29.heap.size w29 w32 := eW32 ▸ HR.alloc HR.size _
  replace HB := hb
  clear hb
  rw [eW32]
  clear eW32 sW32
  apply wpX_one (i := 15) rfl rfl (by kernel_rfl)
  unfold mild
  go_simp
  simp only [mildUpon]
  refine ⟨trivial, ?_⟩
  have HRT := Lib.hid (And.intro rt.lt gz.lt)
  with_reducible refine ((unhide K20) _ (w31.heap.size) ((L.below HB).more HB.size) ((SY.below HB).more HB.size) (sl_three rp rp.lt)).mono ?_
  rintro e w33 ⟨⟨A, u, rfl, SA, fA⟩, hb⟩
  refine ⟨_, rfl, hb.mono HR.size, ?_⟩
  replace rc := rc.below hb rc.lt
  replace rs := rs.below hb rs.lt
  replace ri := ri.below hb ri.lt
  replace gz := gz.below hb gz.lt
  replace rb := rb.below hb rb.lt
  replace ra := ra.below hb ra.lt
  replace rv := rv.below hb rv.lt
  replace rt := rt.below hb rt.lt
  replace rp := rp.below hb rp.lt
  replace HB := HB.trans (hb.mono HB.size)
  replace HR := HR.trans (hb.mono HR.size)
  clear hb
  have F : Hid (∀ ad : Addr, A = some ad → w13.heap.size + 1 < ad.block ∧ w.heap.size + 1 + 1 + 1 < ad.block) := Lib.hid fun ad h => by have h1 := fA ad h; have h2 := HRT.out; omega
  clear fA HRT
  refine wpX_rest (k := 16) (by kernel_rfl) ?_
  simp only [List.drop_succ_cons, List.drop_zero]
  have rtc0 := rt.cell 0
  have rtc1 := rt.cell 1
  have rtc2 := rt.cell 2
  have rtc3 := rt.cell 3
  have rtc4 := rt.cell 4
  have rtc5 := rt.cell 5
  have rtc6 := rt.cell 6
  have rtc7 := rt.cell 7
  have fr6 := rt.frozen 6
  have qrc := Qrc.out
  have qrs := Qrs.out
  have qri := Qri.out
  have qgz := Qgz.out
  have qrb := Qrb.out
  have qra := Qra.out
  have qrv := Qrv.out
  have qrt := Qrt.out
  have qrp := Qrp.out
  have nrc : ¬ w.heap.size = w13.heap.size + 1 := by omega
  have mrc : ¬ w13.heap.size + 1 = w.heap.size := by omega
  have nrs : ¬ w.heap.size + 1 = w13.heap.size + 1 := by omega
  have mrs : ¬ w13.heap.size + 1 = w.heap.size + 1 := by omega
  have nri : ¬ w.heap.size + 1 + 1 = w13.heap.size + 1 := by omega
  have mri : ¬ w13.heap.size + 1 = w.heap.size + 1 + 1 := by omega
  have ngz : ¬ w.heap.size + 1 + 1 + 1 = w13.heap.size + 1 := by omega
  have mgz : ¬ w13.heap.size + 1 = w.heap.size + 1 + 1 + 1 := by omega
  have nrb : ¬ w5.heap.size = w13.heap.size + 1 := by omega
  have mrb : ¬ w13.heap.size + 1 = w5.heap.size := by omega
  have nra : ¬ w9.heap.size = w13.heap.size + 1 := by omega
  have mra : ¬ w13.heap.size + 1 = w9.heap.size := by omega
  have nrv : ¬ w13.heap.size = w13.heap.size + 1 := by omega
  have mrv : ¬ w13.heap.size + 1 = w13.heap.size := by omega
  have nrp : ¬ w31.heap.size = w13.heap.size + 1 := by omega
  have mrp : ¬ w13.heap.size + 1 = w31.heap.size := by omega
  clear qrc qrs qri qgz qrb qra qrv qrt qrp
  go_upto_region 15 with (fail)
  have qrc := Qrc.out
  have qrs := Qrs.out
  have qri := Qri.out
  have qgz := Qgz.out
  have qrb := Qrb.out
  have qra := Qra.out
  have qrv := Qrv.out
  have qrt := Qrt.out
  have qrp := Qrp.out
  obtain ⟨w34, hw⟩ : ∃ W, (w33.setCell ⟨w13.heap.size + 1, 6, none⟩ (.slice A 3 u)) = W := ⟨_, rfl⟩
  replace rc : Blk w34 (w.heap.size) 35 #[.int .i64 P.m.r, .int .i64 P.m.m, .slice X.A1 X.n1 X.c1, .slice X.A2 X.n2 X.c2, .slice X.A3 X.n3 X.c3, .slice X.A4 X.n4 X.c4, .int .i64 P.m.p, .int .i64 P.m.s, .int .i64 P.m.f, .int .i64 P.l.num, .int .i64 P.l.den, .int .i64 P.l.sup, .int .i64 P.l.fed, .int .i64 P.l.ohm, .int .i64 P.l.bon, .int .i64 P.l.boff, .int .i64 P.l.bohm, .int .i64 P.g, .int .i64 P.d, .int .i64 P.y, .slice X.B1 X.m1 X.d1, .slice X.B2 X.m2 X.d2, .slice X.B3 X.m3 X.d3, .int .i64 P.wi, .int .i64 P.sw] := hw ▸ (rc.far (by simp <;> omega) _)
  replace rs : Blk w34 (w.heap.size + 1) 47 #[.int .i64 s.fd, .int .i64 s.fq, .int .i64 s.v, .bool s.b, .int .i64 s.po, .int .i64 s.sp, .slice YA 3 yc, .int .i64 s.tn] := hw ▸ (rs.far (by simp <;> omega) _)
  replace ri : Blk w34 (w.heap.size + 1 + 1) 53 #[.int .i64 z.per, .bool z.b0, .bool z.b1, .bool z.b2, .bool z.b3, .bool z.b4, .bool z.b5, .slice GA gn gc, .int .i64 z.ld, .int .i64 z.amb, .bool z.k0, .bool z.k1, .bool z.k2, .bool z.k3, .bool z.k4, .bool z.k5, .bool z.de, .bool z.nb] := hw ▸ (ri.far (by simp <;> omega) _)
  replace gz : Blk w34 (w.heap.size + 1 + 1 + 1) 47 #[.int .i64 0, .int .i64 0, .int .i64 0, .bool false, .int .i64 0, .int .i64 0, .slice none 0 0, .int .i64 0] := hw ▸ (gz.far (by simp <;> omega) _)
  replace rb : Blk w34 (w5.heap.size) 51 #[.int .i64 z.per, .bool (z.b0 && !z.k0), .bool (z.b1 && !z.k1), .bool (z.b2 && !z.k2), .bool (z.b3 && !z.k3), .bool (z.b4 && !z.k4), .bool (z.b5 && !z.k5), .slice A' n' c'] := hw ▸ (rb.far (by simp <;> omega) _)
  replace ra : Blk w34 (w9.heap.size) 67 #[.int .i64 a, .int .i64 b, .int .i64 c] := hw ▸ (ra.far (by simp <;> omega) _)
  replace rv : Blk w34 (w13.heap.size) 122 #[.int .i64 VA, .int .i64 VB] := hw ▸ (rv.far (by simp <;> omega) _)
  replace rt : Blk w34 (w13.heap.size + 1) 47 #[.int .i64 M, .int .i64 N, .int .i64 LV, .bool LB, .int .i64 PO, .int .i64 SP, .slice A 3 u, .int .i64 TN] := hw ▸ (rt.set_ 6 _)
  replace rp : Blk w34 (w31.heap.size) 3 #[.int .i64 x, .int .i64 0, .int .i64 y] := hw ▸ (rp.far (by simp <;> omega) _)
  replace HB : Below w.heap.size w w34 := hw ▸ (HB.setCell (by simp <;> omega) _)
  have SA2 : Sl w34 _ 1 A (rows (stps P.h s.h [x, 0, y] z.amb 3)) := hw ▸ SA.far1 (fun ad h => by have := F.out ad h; simp; omega) _
  have z2 : w34.heap.size = w33.heap.size := by rw [← hw]; simp
  simp only [hw]
  clear hw
  clear rtc0 rtc1 rtc2 rtc3 rtc4 rtc5 rtc6 rtc7 fr6 nrc mrc nrs mrs nri mri ngz mgz nrb mrb nra mra nrv mrv nrp mrp qrc qrs qri qgz qrb qra qrv qrt qrp
  have rtx34 := rt
  have qrc := Qrc.out
  have qrs := Qrs.out
  have qri := Qri.out
  have qgz := Qgz.out
  have qrb := Qrb.out
  have qra := Qra.out
  have qrv := Qrv.out
  have qrt := Qrt.out
  have qrp := Qrp.out
  have gzo34 := gz
  obtain ⟨w35, eW35, sW35, hr, hb⟩ := rowX gz #[.int .i64 M, .int .i64 N, .int .i64 LV, .bool LB, .int .i64 PO, .int .i64 SP, .slice A 3 u, .int .i64 TN] (n := w34.heap.size) rfl HB (by omega)
  replace rc := rc.rowTo eW35 (by omega)
  replace rs := rs.rowTo eW35 (by omega)
  replace ri := ri.rowTo eW35 (by omega)
  replace rb := rb.rowTo eW35 (by omega)
  replace ra := ra.rowTo eW35 (by omega)
  replace rv := rv.rowTo eW35 (by omega)
  replace rt := rt.rowTo eW35 (by omega)
  replace rp := rp.rowTo eW35 (by omega)
  replace gz := hr
  replace HB := hb
  clear hb hr qrc qrs qri qgz qrb qra qrv qrt qrp
  go_wp2_with (first | (refine wpList_load_row rfl 47 _ rfl (w13.heap.size + 1) rfl _ _ _ _ rtx34 Tryz.underlying47 rfl (by kernel_rfl) ?_) | (refine wpList_store_row rfl 47 _ _ rfl (w.heap.size + 1 + 1 + 1) #[.int .i64 M, .int .i64 N, .int .i64 LV, .bool LB, .int .i64 PO, .int .i64 SP, .slice A 3 u, .int .i64 TN] rfl rfl _ _ gzo34 (by kernel_rfl) (by kernel_rfl) (by kernel_rfl) ?_; try simp only [eW35]))
  try simp only [eW35]
  exact bodyPost_ret (ret_cell rfl rfl (load_ps gz)) rfl ⟨⟨A, u, rfl, (SA2.rowTo eW35 (fun ad h => by have := F.out ad h; omega)).more (by omega)⟩, HB⟩
set_option maxRecDepth 100000 in
set_option maxHeartbeats 6400000 in
theorem rstepP_b (P : Pc) (X : Pa) (s : Ps) (YA : Option Addr) (yn yc : Nat) (z : Pi) (GA : Option Addr) (gn gc : Nat) (w : World) (L : Py w w.heap.size P X) (SY : Sl w w.heap.size 1 YA (rows s.h)) (ey : yn = s.h.length) (SG : Sl w w.heap.size 3 GA (z.es.map I.Ed.row)) (eg : gn = z.es.length) (gm : gn ≤ 1000000) (hc : plCode P = 0) (h3 : s.h.length = 3) (hk : I.chk z.per z.es = 0) (hs : I.shrt z.per (zOn z) (zEs z) = false) (hof : offB (zOn z) (zEs z) = false) :
    Calls Tryz.prog 16 #[.agg #[.int .i64 P.m.r, .int .i64 P.m.m, .slice X.A1 X.n1 X.c1, .slice X.A2 X.n2 X.c2, .slice X.A3 X.n3 X.c3, .slice X.A4 X.n4 X.c4, .int .i64 P.m.p, .int .i64 P.m.s, .int .i64 P.m.f, .int .i64 P.l.num, .int .i64 P.l.den, .int .i64 P.l.sup, .int .i64 P.l.fed, .int .i64 P.l.ohm, .int .i64 P.l.bon, .int .i64 P.l.boff, .int .i64 P.l.bohm, .int .i64 P.g, .int .i64 P.d, .int .i64 P.y, .slice X.B1 X.m1 X.d1, .slice X.B2 X.m2 X.d2, .slice X.B3 X.m3 X.d3, .int .i64 P.wi, .int .i64 P.sw], .agg #[.int .i64 s.fd, .int .i64 s.fq, .int .i64 s.v, .bool s.b, .int .i64 s.po, .int .i64 s.sp, .slice YA yn yc, .int .i64 s.tn], .agg #[.int .i64 z.per, .bool z.b0, .bool z.b1, .bool z.b2, .bool z.b3, .bool z.b4, .bool z.b5, .slice GA gn gc, .int .i64 z.ld, .int .i64 z.amb, .bool z.k0, .bool z.k1, .bool z.k2, .bool z.k3, .bool z.k4, .bool z.k5, .bool z.de, .bool z.nb]] w fun e w' => (∃ A c, e = .returned (.agg #[.int .i64 (pxS P s z).fd, .int .i64 (pxS P s z).fq, .int .i64 (pxS P s z).v, .bool (pxS P s z).b, .int .i64 (pxS P s z).po, .int .i64 (pxS P s z).sp, .slice A 3 c, .int .i64 (pxS P s z).tn]) ∧ Sl w' w'.heap.size 1 A (rows (pxS P s z).h)) ∧ Below w.heap.size w w' := by
  have ok := pl_ok hc
  obtain rfl : yn = 3 := by omega
  have k3 := fun (W : World) (h : Sl W W.heap.size 3 GA (z.es.map I.Ed.row)) => (I.rbreak_walk z.per z.b0 z.b1 z.b2 z.b3 z.b4 z.b5 z.k0 z.k1 z.k2 z.k3 z.k4 z.k5 GA gn gc z.es W h eg gm).mono fun _ _ q => grp3' q
  have hz : I.brk [z.k0, z.k1, z.k2, z.k3, z.k4, z.k5] z.es = zEs z := rfl
  simp only [hz] at k3
  have K3 := hide k3
  have hl := I.brk_length [z.k0, z.k1, z.k2, z.k3, z.k4, z.k5] z.es
  have hm : (zEs z).length ≤ 1000000 := by unfold zEs; omega
  have ho : [z.b0 && !z.k0, z.b1 && !z.k1, z.b2 && !z.k2, z.b3 && !z.k3, z.b4 && !z.k4, z.b5 && !z.k5] = zOn z := rfl
  clear k3 hl
  have he : I.err z.per (zOn z) (zEs z) = 0 := (show InOk s z from ⟨h3, hk, hs⟩).e
  have e1 := L.h.e1
  have m3 : X.m1 = 3 := by rw [e1]; exact ok.n
  have T0 := angP_bd s.po
  have k5 := fun (W : World) => angleR s.po s.sp W
  have k6 : ∀ (W : World) (h : Py W W.heap.size P X), Calls Tryz.prog 52 #[.agg #[.int .i64 P.m.r, .int .i64 P.m.m, .slice X.A1 X.n1 X.c1, .slice X.A2 X.n2 X.c2, .slice X.A3 X.n3 X.c3, .slice X.A4 X.n4 X.c4, .int .i64 P.m.p, .int .i64 P.m.s, .int .i64 P.m.f], .agg #[.int .i64 s.fd, .int .i64 s.fq], .int .i64 (angP s.po)] W fun e w' => e = .returned (.agg #[.int .i64 (cuA P s), .int .i64 (cuB P s), .int .i64 (cuC P s)]) ∧ Below W.heap.size W w' := fun W h => gphaR P X s.fd s.fq (angP s.po) W h ok.m
  have k7 := fun (W : World) (A' : Option Addr) (n' c' : Nat) (h : Sl W W.heap.size 3 A' ((zEs z).map I.Ed.row)) (en : n' = (zEs z).length) => I.rdraw_walk z.per (z.b0 && !z.k0) (z.b1 && !z.k1) (z.b2 && !z.k2) (z.b3 && !z.k3) (z.b4 && !z.k4) (z.b5 && !z.k5) A' n' c' (zEs z) (cuA P s) (cuB P s) (cuC P s) W h en (by omega) he
  have k8 := fun (W : World) (A' : Option Addr) (n' c' : Nat) (h : Sl W W.heap.size 3 A' ((zEs z).map I.Ed.row)) (en : n' = (zEs z).length) => I.rvector_walk z.per (z.b0 && !z.k0) (z.b1 && !z.k1) (z.b2 && !z.k2) (z.b3 && !z.k3) (z.b4 && !z.k4) (z.b5 && !z.k5) A' n' c' (zEs z) (cuA P s) (cuB P s) (cuC P s) s.v W h en (by omega) he
  have k9 := fun (W : World) (A' : Option Addr) (n' c' : Nat) (h : Sl W W.heap.size 3 A' ((zEs z).map I.Ed.row)) (en : n' = (zEs z).length) => I.rallOff_walk z.per (z.b0 && !z.k0) (z.b1 && !z.k1) (z.b2 && !z.k2) (z.b3 && !z.k3) (z.b4 && !z.k4) (z.b5 && !z.k5) A' n' c' (zEs z) W h en (by omega)
  have hob : I.allOff (z.b0 && !z.k0) (z.b1 && !z.k1) (z.b2 && !z.k2) (z.b3 && !z.k3) (z.b4 && !z.k4) (z.b5 && !z.k5) (zEs z) = offB (zOn z) (zEs z) := rfl
  simp only [hob, hof] at k9
  have vd : I.fwdA (I.voltP z.per (zOn z) (zEs z) 0 (cuA P s) s.v) (I.voltP z.per (zOn z) (zEs z) 1 (cuB P s) s.v) (I.voltP z.per (zOn z) (zEs z) 2 (cuC P s) s.v) = vecA z.per (zOn z) (zEs z) (cuA P s) (cuB P s) (cuC P s) s.v := rfl
  have vq : I.fwdB (I.voltP z.per (zOn z) (zEs z) 1 (cuB P s) s.v) (I.voltP z.per (zOn z) (zEs z) 2 (cuC P s) s.v) = vecB z.per (zOn z) (zEs z) (cuB P s) (cuC P s) s.v := rfl
  have bb := fwd_bd (I.voltP_bd (per := z.per) (on := zOn z) (es := zEs z) (leg := 0) (cur := cuA P s) (k := s.v)) (I.voltP_bd (per := z.per) (on := zOn z) (es := zEs z) (leg := 1) (cur := cuB P s) (k := s.v)) (I.voltP_bd (per := z.per) (on := zOn z) (es := zEs z) (leg := 2) (cur := cuC P s) (k := s.v))
  simp only [ho, vd, vq] at k8
  simp only [ho, ← I.draw_eq he] at k7
  rw [vd, vq] at bb
  have hMw : I.drawP z.per (zOn z) (zEs z) (cuA P s) (cuB P s) (cuC P s) = pxW P s z := rfl
  simp only [hMw] at k7
  have hMd : pxD P s z = P.m.m + inX P.m.dx (stD P.m s.fd s.fq (turnU (vecA z.per (zOn z) (zEs z) (cuA P s) (cuB P s) (cuC P s) s.v) (vecB z.per (zOn z) (zEs z) (cuB P s) (cuC P s) s.v) (-(angP s.po))) s.tn - P.m.m) := if_neg (by rw [hof]; decide)
  have hMq : pxQ P s z = inX P.m.qx (stQ P.m s.fd s.fq (turnV (vecA z.per (zOn z) (zEs z) (cuA P s) (cuB P s) (cuC P s) s.v) (vecB z.per (zOn z) (zEs z) (cuB P s) (cuC P s) s.v) (-(angP s.po))) s.tn) := if_neg (by rw [hof]; decide)
  obtain ⟨VA, hVA⟩ : ∃ x, vecA z.per (zOn z) (zEs z) (cuA P s) (cuB P s) (cuC P s) s.v = x := ⟨_, rfl⟩
  obtain ⟨VB, hVB⟩ : ∃ x, vecB z.per (zOn z) (zEs z) (cuB P s) (cuC P s) s.v = x := ⟨_, rfl⟩
  simp only [hVA, hVB] at k8 bb hMd hMq
  have k11 := fun (W : World) => parkR VA VB (angP s.po) bb.1 bb.2 W
  obtain ⟨U, hU⟩ : ∃ x, turnU VA VB (-(angP s.po)) = x := ⟨_, rfl⟩
  obtain ⟨V, hV⟩ : ∃ x, turnV VA VB (-(angP s.po)) = x := ⟨_, rfl⟩
  simp only [hU, hV] at k11 hMd hMq
  have k10 := fun (W : World) (h : Py W W.heap.size P X) => gstepR P X s.fd s.fq U V s.tn W h ok.m
  simp only [← hMd, ← hMq] at k10
  have k13 := fun (W : World) (h : Py W W.heap.size P X) => gtorR P X (pxD P s z) (pxQ P s z) W h ok.m
  have hMt : torq P.m (pxD P s z) (pxQ P s z) = pxT P s z := rfl
  simp only [hMt] at k13
  have f1 : (pxS P s z).fd = pxD P s z := rfl
  have f2 : (pxS P s z).fq = pxQ P s z := rfl
  have f3 : (pxS P s z).v = lkV P.l s.v s.b (pxW P s z) z.de z.nb := rfl
  have f4 : (pxS P s z).b = lkBr P.l s.v s.b := rfl
  have f5 : (pxS P s z).po = npV P.g P.d P.y s.po s.sp (pxT P s z) z.ld := rfl
  have f6 : (pxS P s z).sp = nvV P.g P.d P.y s.sp (pxT P s z) z.ld := rfl
  have f7 : (pxS P s z).h = stps P.h s.h [lossS (cuA P s) (cuB P s) (cuC P s) P.wi, 0, lossS (cuA P s) (cuB P s) (cuC P s) P.sw] z.amb 3 := rfl
  have f8 : (pxS P s z).tn = difA (angP (npV P.g P.d P.y s.po s.sp (pxT P s z) z.ld)) (angP s.po) := rfl
  simp only [f1, f2, f3, f4, f5, f6, f7, f8]
  clear f1 f2 f3 f4 f5 f6 f7 f8 hMd hMq
  obtain ⟨M, hM⟩ : ∃ x, pxD P s z = x := ⟨_, rfl⟩
  obtain ⟨N, hN⟩ : ∃ x, pxQ P s z = x := ⟨_, rfl⟩
  obtain ⟨D, hD⟩ : ∃ x, pxW P s z = x := ⟨_, rfl⟩
  obtain ⟨TQ, hTQ⟩ : ∃ x, pxT P s z = x := ⟨_, rfl⟩
  simp only [hD] at k7
  simp only [hM, hN] at k10
  simp only [hM, hN, hTQ] at k13
  simp only [hM, hN, hD, hTQ]
  have k14 := fun (W : World) => sstepR P.g P.d P.y s.po s.sp TQ z.ld W ok.s
  obtain ⟨PO, hPO⟩ : ∃ x, npV P.g P.d P.y s.po s.sp TQ z.ld = x := ⟨_, rfl⟩
  obtain ⟨SP, hSP⟩ : ∃ x, nvV P.g P.d P.y s.sp TQ z.ld = x := ⟨_, rfl⟩
  simp only [hPO, hSP] at k14 ⊢
  have T1 := angP_bd PO
  have k15 := fun (W : World) => angleR PO SP W
  have k16 := fun (W : World) => difR (angP PO) (angP s.po) W T1 T0
  have k17 := fun (W : World) => lstepR P.l s.v s.b D z.de z.nb W ok.l
  obtain ⟨LV, hLV⟩ : ∃ x, lkV P.l s.v s.b D z.de z.nb = x := ⟨_, rfl⟩
  obtain ⟨LB, hLB⟩ : ∃ x, lkBr P.l s.v s.b = x := ⟨_, rfl⟩
  obtain ⟨T2, hT2⟩ : ∃ x, angP PO = x := ⟨_, rfl⟩
  obtain ⟨T, hT⟩ : ∃ x, angP s.po = x := ⟨_, rfl⟩
  simp only [hT2, hT] at k16 ⊢
  simp only [hT2] at k15
  simp only [hT] at k5 k6 k11
  obtain ⟨TN, hTN⟩ : ∃ x, difA T2 T = x := ⟨_, rfl⟩
  simp only [hTN] at k16 ⊢
  simp only [hLV, hLB] at k17 ⊢
  have k18 := fun (W : World) => rlossR (cuA P s) (cuB P s) (cuC P s) P.wi W
  have k19 := fun (W : World) => rlossR (cuA P s) (cuB P s) (cuC P s) P.sw W
  obtain ⟨x, hx⟩ : ∃ x, lossS (cuA P s) (cuB P s) (cuC P s) P.wi = x := ⟨_, rfl⟩
  obtain ⟨y, hy⟩ : ∃ x, lossS (cuA P s) (cuB P s) (cuC P s) P.sw = x := ⟨_, rfl⟩
  simp only [hx] at k18 ⊢
  simp only [hy] at k19 ⊢
  obtain ⟨a, ha⟩ : ∃ x, cuA P s = x := ⟨_, rfl⟩
  obtain ⟨b, hb'⟩ : ∃ x, cuB P s = x := ⟨_, rfl⟩
  obtain ⟨c, hc'⟩ : ∃ x, cuC P s = x := ⟨_, rfl⟩
  simp only [ha, hb', hc'] at k6 k7 k8 k18 k19
  have k20 := fun (W : World) (g : Nat) (hL : Py W W.heap.size P X) (SX : Sl W W.heap.size 1 YA (rows s.h)) (SP : Sl W W.heap.size 1 (some ⟨g, 0, none⟩) (rows [x, 0, y])) => hstepR P.h X.B1 X.B2 X.B3 X.m1 X.m2 X.m3 X.d1 X.d2 X.d3 X.PA X.PC s.h [x, 0, y] YA (some ⟨g, 0, none⟩) 3 3 yc 3 z.amb W hL.h ok.h m3 SX SP h3.symm rfl rfl rfl
  have K5 := hide k5
  have K6 := hide k6
  have K7 := hide k7
  have K8 := hide k8
  have K9 := hide k9
  have K10 := hide k10
  have K11 := hide k11
  have K13 := hide k13
  have K14 := hide k14
  have K15 := hide k15
  have K16 := hide k16
  have K17 := hide k17
  have K18 := hide k18
  have K19 := hide k19
  have K20 := hide k20
  clear k5 k6 k7 k8 k9 k10 k11 k13 k14 k15 k16 k17 k18 k19 k20 hMw hMt hM hN hD hTQ hPO hSP hT2 hT hTN hLV hLB hx hy ha hb' hc' T0 T1 he e1 m3 ok hc hk hs h3 ey eg gm hz hm ho hob hof vd vq bb hVA hVB hU hV
  have HB := Below.refl w.heap.size w
  obtain ⟨w1, eW1, sW1, rc, hb⟩ := box w #[.int .i64 P.m.r, .int .i64 P.m.m, .slice X.A1 X.n1 X.c1, .slice X.A2 X.n2 X.c2, .slice X.A3 X.n3 X.c3, .slice X.A4 X.n4 X.c4, .int .i64 P.m.p, .int .i64 P.m.s, .int .i64 P.m.f, .int .i64 P.l.num, .int .i64 P.l.den, .int .i64 P.l.sup, .int .i64 P.l.fed, .int .i64 P.l.ohm, .int .i64 P.l.bon, .int .i64 P.l.boff, .int .i64 P.l.bohm, .int .i64 P.g, .int .i64 P.d, .int .i64 P.y, .slice X.B1 X.m1 X.d1, .slice X.B2 X.m2 X.d2, .slice X.B3 X.m3 X.d3, .int .i64 P.wi, .int .i64 P.sw] 35 (g := w.heap.size) rfl HB (by have := HB.size; omega)
  have Qrc : Hid (w.heap.size ≤ w.heap.size) := Lib.hid (by have := HB.size; omega)
  replace HB := hb
  clear hb
  obtain ⟨w2, eW2, sW2, rs, hb⟩ := box w1 #[.int .i64 s.fd, .int .i64 s.fq, .int .i64 s.v, .bool s.b, .int .i64 s.po, .int .i64 s.sp, .slice YA 3 yc, .int .i64 s.tn] 47 (g := w.heap.size + 1) sW1 HB (by have := HB.size; omega)
  have Qrs : Hid (w.heap.size ≤ w.heap.size + 1 ∧ w.heap.size < w.heap.size + 1) := Lib.hid ⟨by have := HB.size; omega, by have := rc.lt; omega⟩
  replace rc := rc.al eW2
  replace HB := hb
  clear hb
  obtain ⟨w3, eW3, sW3, ri, hb⟩ := box w2 #[.int .i64 z.per, .bool z.b0, .bool z.b1, .bool z.b2, .bool z.b3, .bool z.b4, .bool z.b5, .slice GA gn gc, .int .i64 z.ld, .int .i64 z.amb, .bool z.k0, .bool z.k1, .bool z.k2, .bool z.k3, .bool z.k4, .bool z.k5, .bool z.de, .bool z.nb] 53 (g := w.heap.size + 1 + 1) sW2 HB (by have := HB.size; omega)
  have Qri : Hid (w.heap.size ≤ w.heap.size + 1 + 1 ∧ w.heap.size < w.heap.size + 1 + 1 ∧ w.heap.size + 1 < w.heap.size + 1 + 1) := Lib.hid ⟨by have := HB.size; omega, by have := rc.lt; omega, by have := rs.lt; omega⟩
  replace rc := rc.al eW3
  replace rs := rs.al eW3
  replace HB := hb
  clear hb
  obtain ⟨w4, eW4, sW4, gz, hb⟩ := box w3 #[.int .i64 0, .int .i64 0, .int .i64 0, .bool false, .int .i64 0, .int .i64 0, .slice none 0 0, .int .i64 0] 47 (g := w.heap.size + 1 + 1 + 1) sW3 HB (by have := HB.size; omega)
  have Qgz : Hid (w.heap.size ≤ w.heap.size + 1 + 1 + 1 ∧ w.heap.size < w.heap.size + 1 + 1 + 1 ∧ w.heap.size + 1 < w.heap.size + 1 + 1 + 1 ∧ w.heap.size + 1 + 1 < w.heap.size + 1 + 1 + 1) := Lib.hid ⟨by have := HB.size; omega, by have := rc.lt; omega, by have := rs.lt; omega, by have := ri.lt; omega⟩
  replace rc := rc.al eW4
  replace rs := rs.al eW4
  replace ri := ri.al eW4
  replace HB := hb
  clear hb
  go_enter Tryz.func16, Tryz.ntmps16
  have ric0 := ri.cell 0
  have ric1 := ri.cell 1
  have ric2 := ri.cell 2
  have ric3 := ri.cell 3
  have ric4 := ri.cell 4
  have ric5 := ri.cell 5
  have ric6 := ri.cell 6
  have ric7 := ri.cell 7
  have ric10 := ri.cell 10
  have ric11 := ri.cell 11
  have ric12 := ri.cell 12
  have ric13 := ri.cell 13
  have ric14 := ri.cell 14
  have ric15 := ri.cell 15
  go_wp2_with fail
  with_reducible refine ((unhide K3) _ ((SG.below HB).more HB.size)).mono ?_
  rintro e w5 ⟨⟨A', n', c', rfl, en, SB⟩, hb⟩
  replace rc := rc.below hb rc.lt
  replace rs := rs.below hb rs.lt
  replace ri := ri.below hb ri.lt
  replace gz := gz.below hb gz.lt
  replace HB := HB.trans (hb.mono HB.size)
  clear hb
  clear ric0 ric1 ric2 ric3 ric4 ric5 ric6 ric7 ric10 ric11 ric12 ric13 ric14 ric15 eW1 sW1 eW2 sW2 eW3 sW3 eW4 sW4
  have EN := Lib.hid en
  clear en
  have HC := Below.refl w5.heap.size w5
  obtain ⟨w6, eW6, sW6, rb, hb⟩ := box w5 #[.int .i64 0, .bool false, .bool false, .bool false, .bool false, .bool false, .bool false, .slice none 0 0] 51 (g := w5.heap.size) rfl HB (by have := HB.size; omega)
  have Qrb : Hid (w.heap.size ≤ w5.heap.size ∧ w5.heap.size ≤ w5.heap.size ∧ w.heap.size < w5.heap.size ∧ w.heap.size + 1 < w5.heap.size ∧ w.heap.size + 1 + 1 < w5.heap.size ∧ w.heap.size + 1 + 1 + 1 < w5.heap.size) := Lib.hid ⟨by have := HB.size; omega, by have := HC.size; omega, by have := rc.lt; omega, by have := rs.lt; omega, by have := ri.lt; omega, by have := gz.lt; omega⟩
  replace rc := rc.al eW6
  replace rs := rs.al eW6
  replace ri := ri.al eW6
  replace gz := gz.al eW6
  replace HC : Below w5.heap.size w5 w6 := eW6 ▸ HC.alloc HC.size _
  replace HB := hb
  clear hb
  have qrc := Qrc.out
  have qrs := Qrs.out
  have qri := Qri.out
  have qgz := Qgz.out
  have qrb := Qrb.out
  have uHC := HC.size
  have rbo6 := rb
  obtain ⟨w7, eW7, sW7, hr, hb⟩ := rowX rb #[.int .i64 z.per, .bool (z.b0 && !z.k0), .bool (z.b1 && !z.k1), .bool (z.b2 && !z.k2), .bool (z.b3 && !z.k3), .bool (z.b4 && !z.k4), .bool (z.b5 && !z.k5), .slice A' n' c'] (n := w5.heap.size + 1) sW6 HB (by omega)
  replace rc := rc.rowTo eW7 (by omega)
  replace rs := rs.rowTo eW7 (by omega)
  replace ri := ri.rowTo eW7 (by omega)
  replace gz := gz.rowTo eW7 (by omega)
  replace rb := hr
  have HCo := HC
  replace HC : Below w5.heap.size w5 w7 := eW7 ▸ below_row HC (by omega)
  replace HB := hb
  clear hb hr qrc qrs qri qgz qrb uHC
  have rsc4 := rs.cell 4
  have rsc5 := rs.cell 5
  go_wp2_with (first | (refine wpList_store_row rfl 51 _ _ rfl (w5.heap.size) #[.int .i64 z.per, .bool (z.b0 && !z.k0), .bool (z.b1 && !z.k1), .bool (z.b2 && !z.k2), .bool (z.b3 && !z.k3), .bool (z.b4 && !z.k4), .bool (z.b5 && !z.k5), .slice A' n' c'] rfl rfl _ _ rbo6 (by kernel_rfl) (by kernel_rfl) (by kernel_rfl) ?_; try simp only [eW7]))
  with_reducible refine ((unhide K5) _).mono ?_
  rintro e w8 ⟨rfl, hb⟩
  replace rc := rc.below hb rc.lt
  replace rs := rs.below hb rs.lt
  replace ri := ri.below hb ri.lt
  replace gz := gz.below hb gz.lt
  replace rb := rb.below hb rb.lt
  replace HB := HB.trans (hb.mono HB.size)
  replace HC := HC.trans (hb.mono HC.size)
  clear hb
  clear rbo6 rsc4 rsc5 eW6 sW6 eW7 sW7
  have rcc0 := rc.cell 0
  have rcc1 := rc.cell 1
  have rcc2 := rc.cell 2
  have rcc3 := rc.cell 3
  have rcc4 := rc.cell 4
  have rcc5 := rc.cell 5
  have rcc6 := rc.cell 6
  have rcc7 := rc.cell 7
  have rcc8 := rc.cell 8
  have rsc0 := rs.cell 0
  have rsc1 := rs.cell 1
  go_wp2_with fail
  with_reducible refine ((unhide K6) _ ((L.below HB).more HB.size)).mono ?_
  rintro e w9 ⟨rfl, hb⟩
  replace rc := rc.below hb rc.lt
  replace rs := rs.below hb rs.lt
  replace ri := ri.below hb ri.lt
  replace gz := gz.below hb gz.lt
  replace rb := rb.below hb rb.lt
  replace HB := HB.trans (hb.mono HB.size)
  replace HC := HC.trans (hb.mono HC.size)
  clear hb
  clear rcc0 rcc1 rcc2 rcc3 rcc4 rcc5 rcc6 rcc7 rcc8 rsc0 rsc1
  obtain ⟨w10, eW10, sW10, ra, hb⟩ := box w9 #[.int .i64 0, .int .i64 0, .int .i64 0] 67 (g := w9.heap.size) rfl HB (by have := HB.size; omega)
  have Qra : Hid (w.heap.size ≤ w9.heap.size ∧ w5.heap.size ≤ w9.heap.size ∧ w.heap.size < w9.heap.size ∧ w.heap.size + 1 < w9.heap.size ∧ w.heap.size + 1 + 1 < w9.heap.size ∧ w.heap.size + 1 + 1 + 1 < w9.heap.size ∧ w5.heap.size < w9.heap.size) := Lib.hid ⟨by have := HB.size; omega, by have := HC.size; omega, by have := rc.lt; omega, by have := rs.lt; omega, by have := ri.lt; omega, by have := gz.lt; omega, by have := rb.lt; omega⟩
  replace rc := rc.al eW10
  replace rs := rs.al eW10
  replace ri := ri.al eW10
  replace gz := gz.al eW10
  replace rb := rb.al eW10
  replace HC : Below w5.heap.size w5 w10 := eW10 ▸ HC.alloc HC.size _
  replace HB := hb
  clear hb
  have qrc := Qrc.out
  have qrs := Qrs.out
  have qri := Qri.out
  have qgz := Qgz.out
  have qrb := Qrb.out
  have qra := Qra.out
  have uHC := HC.size
  have rao10 := ra
  obtain ⟨w11, eW11, sW11, hr, hb⟩ := rowX ra #[.int .i64 a, .int .i64 b, .int .i64 c] (n := w9.heap.size + 1) sW10 HB (by omega)
  replace rc := rc.rowTo eW11 (by omega)
  replace rs := rs.rowTo eW11 (by omega)
  replace ri := ri.rowTo eW11 (by omega)
  replace gz := gz.rowTo eW11 (by omega)
  replace rb := rb.rowTo eW11 (by omega)
  replace ra := hr
  have HCo := HC
  replace HC : Below w5.heap.size w5 w11 := eW11 ▸ below_row HC (by omega)
  replace HB := hb
  clear hb hr qrc qrs qri qgz qrb qra uHC
  go_wp2_with (first | (refine wpList_load_row rfl 51 _ rfl (w5.heap.size) rfl _ _ _ _ rb Tryz.underlying51 rfl (by kernel_rfl) ?_) | (refine wpList_load_row rfl 67 _ rfl (w9.heap.size) rfl _ _ _ _ ra Tryz.underlying67 rfl (by kernel_rfl) ?_) | (refine wpList_store_row rfl 67 _ _ rfl (w9.heap.size) #[.int .i64 a, .int .i64 b, .int .i64 c] rfl rfl _ _ rao10 (by kernel_rfl) (by kernel_rfl) (by kernel_rfl) ?_; try simp only [eW11]))
  with_reducible refine ((unhide K7) _ A' n' c' ((SB.below HC).more HC.size) EN.out).mono ?_
  rintro e w12 ⟨rfl, hb⟩
  replace rc := rc.below hb rc.lt
  replace rs := rs.below hb rs.lt
  replace ri := ri.below hb ri.lt
  replace gz := gz.below hb gz.lt
  replace rb := rb.below hb rb.lt
  replace ra := ra.below hb ra.lt
  replace HB := HB.trans (hb.mono HB.size)
  replace HC := HC.trans (hb.mono HC.size)
  clear hb
  clear rao10 eW10 sW10 eW11 sW11
  have rsc2 := rs.cell 2
  go_wp2_with (first | (refine wpList_load_row rfl 51 _ rfl (w5.heap.size) rfl _ _ _ _ rb Tryz.underlying51 rfl (by kernel_rfl) ?_) | (refine wpList_load_row rfl 67 _ rfl (w9.heap.size) rfl _ _ _ _ ra Tryz.underlying67 rfl (by kernel_rfl) ?_))
  with_reducible refine ((unhide K8) _ A' n' c' ((SB.below HC).more HC.size) EN.out).mono ?_
  rintro e w13 ⟨rfl, hb⟩
  replace rc := rc.below hb rc.lt
  replace rs := rs.below hb rs.lt
  replace ri := ri.below hb ri.lt
  replace gz := gz.below hb gz.lt
  replace rb := rb.below hb rb.lt
  replace ra := ra.below hb ra.lt
  replace HB := HB.trans (hb.mono HB.size)
  replace HC := HC.trans (hb.mono HC.size)
  clear hb
  clear rsc2
  obtain ⟨w14, eW14, sW14, rv, hb⟩ := box w13 #[.int .i64 0, .int .i64 0] 122 (g := w13.heap.size) rfl HB (by have := HB.size; omega)
  have Qrv : Hid (w.heap.size ≤ w13.heap.size ∧ w5.heap.size ≤ w13.heap.size ∧ w.heap.size < w13.heap.size ∧ w.heap.size + 1 < w13.heap.size ∧ w.heap.size + 1 + 1 < w13.heap.size ∧ w.heap.size + 1 + 1 + 1 < w13.heap.size ∧ w5.heap.size < w13.heap.size ∧ w9.heap.size < w13.heap.size) := Lib.hid ⟨by have := HB.size; omega, by have := HC.size; omega, by have := rc.lt; omega, by have := rs.lt; omega, by have := ri.lt; omega, by have := gz.lt; omega, by have := rb.lt; omega, by have := ra.lt; omega⟩
  replace rc := rc.al eW14
  replace rs := rs.al eW14
  replace ri := ri.al eW14
  replace gz := gz.al eW14
  replace rb := rb.al eW14
  replace ra := ra.al eW14
  replace HC : Below w5.heap.size w5 w14 := eW14 ▸ HC.alloc HC.size _
  replace HB := hb
  clear hb
  have qrc := Qrc.out
  have qrs := Qrs.out
  have qri := Qri.out
  have qgz := Qgz.out
  have qrb := Qrb.out
  have qra := Qra.out
  have qrv := Qrv.out
  have uHC := HC.size
  have rvo14 := rv
  obtain ⟨w15, eW15, sW15, hr, hb⟩ := rowX rv #[.int .i64 VA, .int .i64 VB] (n := w13.heap.size + 1) sW14 HB (by omega)
  replace rc := rc.rowTo eW15 (by omega)
  replace rs := rs.rowTo eW15 (by omega)
  replace ri := ri.rowTo eW15 (by omega)
  replace gz := gz.rowTo eW15 (by omega)
  replace rb := rb.rowTo eW15 (by omega)
  replace ra := ra.rowTo eW15 (by omega)
  replace rv := hr
  have HCo := HC
  replace HC : Below w5.heap.size w5 w15 := eW15 ▸ below_row HC (by omega)
  replace HB := hb
  clear hb hr qrc qrs qri qgz qrb qra qrv uHC
  obtain ⟨w16, eW16, sW16, rt, hb⟩ := box w15 #[.int .i64 0, .int .i64 0, .int .i64 0, .bool false, .int .i64 0, .int .i64 0, .slice none 0 0, .int .i64 0] 47 (g := w13.heap.size + 1) sW15 HB (by have := HB.size; omega)
  have Qrt : Hid (w.heap.size ≤ w13.heap.size + 1 ∧ w5.heap.size ≤ w13.heap.size + 1 ∧ w.heap.size < w13.heap.size + 1 ∧ w.heap.size + 1 < w13.heap.size + 1 ∧ w.heap.size + 1 + 1 < w13.heap.size + 1 ∧ w.heap.size + 1 + 1 + 1 < w13.heap.size + 1 ∧ w5.heap.size < w13.heap.size + 1 ∧ w9.heap.size < w13.heap.size + 1 ∧ w13.heap.size < w13.heap.size + 1) := Lib.hid ⟨by have := HB.size; omega, by have := HC.size; omega, by have := rc.lt; omega, by have := rs.lt; omega, by have := ri.lt; omega, by have := gz.lt; omega, by have := rb.lt; omega, by have := ra.lt; omega, by have := rv.lt; omega⟩
  replace rc := rc.al eW16
  replace rs := rs.al eW16
  replace ri := ri.al eW16
  replace gz := gz.al eW16
  replace rb := rb.al eW16
  replace ra := ra.al eW16
  replace rv := rv.al eW16
  replace HC : Below w5.heap.size w5 w16 := eW16 ▸ HC.alloc HC.size _
  replace HB := hb
  clear hb
  have qrc := Qrc.out
  have qrs := Qrs.out
  have qri := Qri.out
  have qgz := Qgz.out
  have qrb := Qrb.out
  have qra := Qra.out
  have qrv := Qrv.out
  have qrt := Qrt.out
  have uHC := HC.size
  have rto16 := rt
  obtain ⟨w17, eW17, sW17, hr, hb⟩ := rowX rt #[.int .i64 0, .int .i64 0, .int .i64 0, .bool false, .int .i64 0, .int .i64 0, .slice none 0 0, .int .i64 0] (n := w13.heap.size + 1 + 1) sW16 HB (by omega)
  replace rc := rc.rowTo eW17 (by omega)
  replace rs := rs.rowTo eW17 (by omega)
  replace ri := ri.rowTo eW17 (by omega)
  replace gz := gz.rowTo eW17 (by omega)
  replace rb := rb.rowTo eW17 (by omega)
  replace ra := ra.rowTo eW17 (by omega)
  replace rv := rv.rowTo eW17 (by omega)
  replace rt := hr
  have HCo := HC
  replace HC : Below w5.heap.size w5 w17 := eW17 ▸ below_row HC (by omega)
  replace HB := hb
  clear hb hr qrc qrs qri qgz qrb qra qrv qrt uHC
  go_wp2_with (first | (refine wpList_load_row rfl 51 _ rfl (w5.heap.size) rfl _ _ _ _ rb Tryz.underlying51 rfl (by kernel_rfl) ?_) | (refine wpList_store_row rfl 122 _ _ rfl (w13.heap.size) #[.int .i64 VA, .int .i64 VB] rfl rfl _ _ rvo14 (by kernel_rfl) (by kernel_rfl) (by kernel_rfl) ?_; try simp only [eW15]) | (refine wpList_store_row rfl 47 _ _ rfl (w13.heap.size + 1) #[.int .i64 0, .int .i64 0, .int .i64 0, .bool false, .int .i64 0, .int .i64 0, .slice none 0 0, .int .i64 0] rfl rfl _ _ rto16 (by kernel_rfl) (by kernel_rfl) (by kernel_rfl) ?_; try simp only [eW17]))
  with_reducible refine ((unhide K9) _ A' n' c' ((SB.below HC).more HC.size) EN.out).mono ?_
  rintro e w18 ⟨rfl, hb⟩
  replace rc := rc.below hb rc.lt
  replace rs := rs.below hb rs.lt
  replace ri := ri.below hb ri.lt
  replace gz := gz.below hb gz.lt
  replace rb := rb.below hb rb.lt
  replace ra := ra.below hb ra.lt
  replace rv := rv.below hb rv.lt
  replace rt := rt.below hb rt.lt
  replace HB := HB.trans (hb.mono HB.size)
  replace HC := HC.trans (hb.mono HC.size)
  clear hb
  clear rvo14 rto16 eW14 sW14 eW15 sW15 eW16 sW16 eW17 sW17
  clear HC
  have rvc0 := rv.cell 0
  have rvc1 := rv.cell 1
  go_wp2_with fail
  with_reducible refine ((unhide K11) _).mono ?_
  rintro e w19 ⟨rfl, hb⟩
  replace rc := rc.below hb rc.lt
  replace rs := rs.below hb rs.lt
  replace ri := ri.below hb ri.lt
  replace gz := gz.below hb gz.lt
  replace rb := rb.below hb rb.lt
  replace ra := ra.below hb ra.lt
  replace rv := rv.below hb rv.lt
  replace rt := rt.below hb rt.lt
  replace HB := HB.trans (hb.mono HB.size)
  clear hb
  clear rvc0 rvc1
  have rcc0 := rc.cell 0
  have rcc1 := rc.cell 1
  have rcc2 := rc.cell 2
  have rcc3 := rc.cell 3
  have rcc4 := rc.cell 4
  have rcc5 := rc.cell 5
  have rcc6 := rc.cell 6
  have rcc7 := rc.cell 7
  have rcc8 := rc.cell 8
  have rsc0 := rs.cell 0
  have rsc1 := rs.cell 1
  have rsc7 := rs.cell 7
  go_wp2_with fail
  with_reducible refine ((unhide K10) _ ((L.below HB).more HB.size)).mono ?_
  rintro e w20 ⟨rfl, hb⟩
  replace rc := rc.below hb rc.lt
  replace rs := rs.below hb rs.lt
  replace ri := ri.below hb ri.lt
  replace gz := gz.below hb gz.lt
  replace rb := rb.below hb rb.lt
  replace ra := ra.below hb ra.lt
  replace rv := rv.below hb rv.lt
  replace rt := rt.below hb rt.lt
  replace HB := HB.trans (hb.mono HB.size)
  clear hb
  clear rcc0 rcc1 rcc2 rcc3 rcc4 rcc5 rcc6 rcc7 rcc8 rsc0 rsc1 rsc7
  have rtc0 := rt.cell 0
  have rtc1 := rt.cell 1
  have rtc2 := rt.cell 2
  have rtc3 := rt.cell 3
  have rtc4 := rt.cell 4
  have rtc5 := rt.cell 5
  have rtc6 := rt.cell 6
  have rtc7 := rt.cell 7
  have fr0 := rt.frozen 0
  have fr1 := rt.frozen 1
  have qrc := Qrc.out
  have qrs := Qrs.out
  have qri := Qri.out
  have qgz := Qgz.out
  have qrb := Qrb.out
  have qra := Qra.out
  have qrv := Qrv.out
  have qrt := Qrt.out
  have nrc : ¬ w.heap.size = w13.heap.size + 1 := by omega
  have mrc : ¬ w13.heap.size + 1 = w.heap.size := by omega
  have nrs : ¬ w.heap.size + 1 = w13.heap.size + 1 := by omega
  have mrs : ¬ w13.heap.size + 1 = w.heap.size + 1 := by omega
  have nri : ¬ w.heap.size + 1 + 1 = w13.heap.size + 1 := by omega
  have mri : ¬ w13.heap.size + 1 = w.heap.size + 1 + 1 := by omega
  have ngz : ¬ w.heap.size + 1 + 1 + 1 = w13.heap.size + 1 := by omega
  have mgz : ¬ w13.heap.size + 1 = w.heap.size + 1 + 1 + 1 := by omega
  have nrb : ¬ w5.heap.size = w13.heap.size + 1 := by omega
  have mrb : ¬ w13.heap.size + 1 = w5.heap.size := by omega
  have nra : ¬ w9.heap.size = w13.heap.size + 1 := by omega
  have mra : ¬ w13.heap.size + 1 = w9.heap.size := by omega
  have nrv : ¬ w13.heap.size = w13.heap.size + 1 := by omega
  have mrv : ¬ w13.heap.size + 1 = w13.heap.size := by omega
  clear qrc qrs qri qgz qrb qra qrv qrt
  go_upto_region 11 with (fail)
  have qrc := Qrc.out
  have qrs := Qrs.out
  have qri := Qri.out
  have qgz := Qgz.out
  have qrb := Qrb.out
  have qra := Qra.out
  have qrv := Qrv.out
  have qrt := Qrt.out
  obtain ⟨w21, hw⟩ : ∃ W, ((w20.setCell ⟨w13.heap.size + 1, 0, none⟩ (.int .i64 M)).setCell ⟨w13.heap.size + 1, 1, none⟩ (.int .i64 N)) = W := ⟨_, rfl⟩
  replace rc : Blk w21 (w.heap.size) 35 #[.int .i64 P.m.r, .int .i64 P.m.m, .slice X.A1 X.n1 X.c1, .slice X.A2 X.n2 X.c2, .slice X.A3 X.n3 X.c3, .slice X.A4 X.n4 X.c4, .int .i64 P.m.p, .int .i64 P.m.s, .int .i64 P.m.f, .int .i64 P.l.num, .int .i64 P.l.den, .int .i64 P.l.sup, .int .i64 P.l.fed, .int .i64 P.l.ohm, .int .i64 P.l.bon, .int .i64 P.l.boff, .int .i64 P.l.bohm, .int .i64 P.g, .int .i64 P.d, .int .i64 P.y, .slice X.B1 X.m1 X.d1, .slice X.B2 X.m2 X.d2, .slice X.B3 X.m3 X.d3, .int .i64 P.wi, .int .i64 P.sw] := hw ▸ ((rc.far (by simp <;> omega) _).far (by simp <;> omega) _)
  replace rs : Blk w21 (w.heap.size + 1) 47 #[.int .i64 s.fd, .int .i64 s.fq, .int .i64 s.v, .bool s.b, .int .i64 s.po, .int .i64 s.sp, .slice YA 3 yc, .int .i64 s.tn] := hw ▸ ((rs.far (by simp <;> omega) _).far (by simp <;> omega) _)
  replace ri : Blk w21 (w.heap.size + 1 + 1) 53 #[.int .i64 z.per, .bool z.b0, .bool z.b1, .bool z.b2, .bool z.b3, .bool z.b4, .bool z.b5, .slice GA gn gc, .int .i64 z.ld, .int .i64 z.amb, .bool z.k0, .bool z.k1, .bool z.k2, .bool z.k3, .bool z.k4, .bool z.k5, .bool z.de, .bool z.nb] := hw ▸ ((ri.far (by simp <;> omega) _).far (by simp <;> omega) _)
  replace gz : Blk w21 (w.heap.size + 1 + 1 + 1) 47 #[.int .i64 0, .int .i64 0, .int .i64 0, .bool false, .int .i64 0, .int .i64 0, .slice none 0 0, .int .i64 0] := hw ▸ ((gz.far (by simp <;> omega) _).far (by simp <;> omega) _)
  replace rb : Blk w21 (w5.heap.size) 51 #[.int .i64 z.per, .bool (z.b0 && !z.k0), .bool (z.b1 && !z.k1), .bool (z.b2 && !z.k2), .bool (z.b3 && !z.k3), .bool (z.b4 && !z.k4), .bool (z.b5 && !z.k5), .slice A' n' c'] := hw ▸ ((rb.far (by simp <;> omega) _).far (by simp <;> omega) _)
  replace ra : Blk w21 (w9.heap.size) 67 #[.int .i64 a, .int .i64 b, .int .i64 c] := hw ▸ ((ra.far (by simp <;> omega) _).far (by simp <;> omega) _)
  replace rv : Blk w21 (w13.heap.size) 122 #[.int .i64 VA, .int .i64 VB] := hw ▸ ((rv.far (by simp <;> omega) _).far (by simp <;> omega) _)
  replace rt : Blk w21 (w13.heap.size + 1) 47 #[.int .i64 M, .int .i64 N, .int .i64 0, .bool false, .int .i64 0, .int .i64 0, .slice none 0 0, .int .i64 0] := hw ▸ ((rt.set_ 0 _).set_ 1 _)
  replace HB : Below w.heap.size w w21 := hw ▸ ((HB.setCell (by simp <;> omega) _).setCell (by simp <;> omega) _)
  simp only [hw]
  clear hw
  clear rtc0 rtc1 rtc2 rtc3 rtc4 rtc5 rtc6 rtc7 fr0 fr1 nrc mrc nrs mrs nri mri ngz mgz nrb mrb nra mra nrv mrv qrc qrs qri qgz qrb qra qrv qrt
  obtain ⟨w22, hw, sw⟩ := drewX w21
  replace rc : Blk w22 (w.heap.size) 35 #[.int .i64 P.m.r, .int .i64 P.m.m, .slice X.A1 X.n1 X.c1, .slice X.A2 X.n2 X.c2, .slice X.A3 X.n3 X.c3, .slice X.A4 X.n4 X.c4, .int .i64 P.m.p, .int .i64 P.m.s, .int .i64 P.m.f, .int .i64 P.l.num, .int .i64 P.l.den, .int .i64 P.l.sup, .int .i64 P.l.fed, .int .i64 P.l.ohm, .int .i64 P.l.bon, .int .i64 P.l.boff, .int .i64 P.l.bohm, .int .i64 P.g, .int .i64 P.d, .int .i64 P.y, .slice X.B1 X.m1 X.d1, .slice X.B2 X.m2 X.d2, .slice X.B3 X.m3 X.d3, .int .i64 P.wi, .int .i64 P.sw] := hw ▸ rc.drew
  have zrc := rc.lt
  replace rs : Blk w22 (w.heap.size + 1) 47 #[.int .i64 s.fd, .int .i64 s.fq, .int .i64 s.v, .bool s.b, .int .i64 s.po, .int .i64 s.sp, .slice YA 3 yc, .int .i64 s.tn] := hw ▸ rs.drew
  have zrs := rs.lt
  replace ri : Blk w22 (w.heap.size + 1 + 1) 53 #[.int .i64 z.per, .bool z.b0, .bool z.b1, .bool z.b2, .bool z.b3, .bool z.b4, .bool z.b5, .slice GA gn gc, .int .i64 z.ld, .int .i64 z.amb, .bool z.k0, .bool z.k1, .bool z.k2, .bool z.k3, .bool z.k4, .bool z.k5, .bool z.de, .bool z.nb] := hw ▸ ri.drew
  have zri := ri.lt
  replace gz : Blk w22 (w.heap.size + 1 + 1 + 1) 47 #[.int .i64 0, .int .i64 0, .int .i64 0, .bool false, .int .i64 0, .int .i64 0, .slice none 0 0, .int .i64 0] := hw ▸ gz.drew
  have zgz := gz.lt
  replace rb : Blk w22 (w5.heap.size) 51 #[.int .i64 z.per, .bool (z.b0 && !z.k0), .bool (z.b1 && !z.k1), .bool (z.b2 && !z.k2), .bool (z.b3 && !z.k3), .bool (z.b4 && !z.k4), .bool (z.b5 && !z.k5), .slice A' n' c'] := hw ▸ rb.drew
  have zrb := rb.lt
  replace ra : Blk w22 (w9.heap.size) 67 #[.int .i64 a, .int .i64 b, .int .i64 c] := hw ▸ ra.drew
  have zra := ra.lt
  replace rv : Blk w22 (w13.heap.size) 122 #[.int .i64 VA, .int .i64 VB] := hw ▸ rv.drew
  have zrv := rv.lt
  replace rt : Blk w22 (w13.heap.size + 1) 47 #[.int .i64 M, .int .i64 N, .int .i64 0, .bool false, .int .i64 0, .int .i64 0, .slice none 0 0, .int .i64 0] := hw ▸ rt.drew
  have zrt := rt.lt
  replace HB : Below w.heap.size w w22 := hw ▸ HB.drew
  refine wp_region_multi (fun i => [8, 12, 13, 14].contains i) (fun i => [8, 12].contains i) w22.heap.size (by kernel_rfl) ?_
  change wpX _ _ _ _ _ _ _ _ _ _ w21.drew
  rw [hw]
  clear hw sw
  have HR := Below.refl w22.heap.size w22
  apply wpX_take (i := 0) rfl rfl (by kernel_rfl) (fun _ _ _ h => h)
  · intro w' hb
    unfold yv
    go_simp
    simp only [yvUpon]
    exact ⟨trivial, rfl⟩
  · go_simp
    exact rfl
  apply wpX_take (i := 1) rfl rfl (by kernel_rfl) (fun _ _ _ h => h)
  · intro w' hb
    have yrc17 := (rc.below hb zrc).cell 17
    have yrc18 := (rc.below hb zrc).cell 18
    have yrc19 := (rc.below hb zrc).cell 19
    unfold yv
    go_simp
    simp only [yvUpon]
    exact ⟨trivial, rfl⟩
  · go_simp
    exact rfl
  apply wpX_take (i := 2) rfl rfl (by kernel_rfl) (fun _ _ _ h => h)
  · intro w' hb
    unfold yv
    go_simp
    simp only [yvUpon]
    exact ⟨trivial, rfl⟩
  · go_simp
    exact rfl
  apply wpX_take (i := 3) rfl rfl (by kernel_rfl) (fun _ _ _ h => h)
  · intro w' hb
    have yrs4 := (rs.below hb zrs).cell 4
    have yrs5 := (rs.below hb zrs).cell 5
    unfold yv
    go_simp
    simp only [yvUpon]
    exact ⟨trivial, rfl⟩
  · go_simp
    exact rfl
  apply wpX_take (i := 4) rfl rfl (by kernel_rfl) (fun _ _ _ h => h)
  · intro w' hb
    unfold yv
    go_simp
    simp only [yvUpon]
    exact ⟨trivial, rfl⟩
  · go_simp
    exact rfl
  apply wpX_take (i := 5) rfl rfl (by kernel_rfl) (fun _ _ _ h => h)
  · intro w' hb
    have yrc0 := (rc.below hb zrc).cell 0
    have yrc1 := (rc.below hb zrc).cell 1
    have yrc2 := (rc.below hb zrc).cell 2
    have yrc3 := (rc.below hb zrc).cell 3
    have yrc4 := (rc.below hb zrc).cell 4
    have yrc5 := (rc.below hb zrc).cell 5
    have yrc6 := (rc.below hb zrc).cell 6
    have yrc7 := (rc.below hb zrc).cell 7
    have yrc8 := (rc.below hb zrc).cell 8
    unfold yv
    go_simp
    simp only [yvUpon]
    exact ⟨trivial, rfl⟩
  · go_simp
    exact rfl
  apply wpX_take (i := 6) rfl rfl (by kernel_rfl) (fun _ _ _ h => h)
  · intro w' hb
    unfold yv
    go_simp
    simp only [yvUpon]
    exact ⟨trivial, rfl⟩
  · go_simp
    exact rfl
  apply wpX_take (i := 7) rfl rfl (by kernel_rfl) (fun _ _ _ h => h)
  · intro w' hb
    have yrt0 := (rt.below hb zrt).cell 0
    have yrt1 := (rt.below hb zrt).cell 1
    unfold yv
    go_simp
    simp only [yvUpon]
    exact ⟨trivial, rfl⟩
  · go_simp
    exact rfl
  apply wpX_take (i := 9) rfl rfl (by kernel_rfl) (fun _ _ _ h => h)
  · intro w' hb
    unfold yv
    go_simp
    simp only [yvUpon]
    exact ⟨trivial, rfl⟩
  · go_simp
    exact rfl
  apply wpX_take (i := 10) rfl rfl (by kernel_rfl) (fun _ _ _ h => h)
  · intro w' hb
    have yri8 := (ri.below hb zri).cell 8
    unfold yv
    go_simp
    simp only [yvUpon]
    exact ⟨trivial, rfl⟩
  · go_simp
    exact rfl
  apply wpX_one (i := 8) rfl rfl (by kernel_rfl)
  unfold mild
  go_simp
  simp only [mildUpon]
  refine ⟨trivial, ?_⟩
  with_reducible refine ((unhide K13) _ ((L.below HB).more HB.size)).mono ?_
  rintro e w23 ⟨rfl, hb⟩
  refine ⟨_, rfl, hb.mono HR.size, ?_⟩
  replace rc := rc.below hb rc.lt
  replace rs := rs.below hb rs.lt
  replace ri := ri.below hb ri.lt
  replace gz := gz.below hb gz.lt
  replace rb := rb.below hb rb.lt
  replace ra := ra.below hb ra.lt
  replace rv := rv.below hb rv.lt
  replace rt := rt.below hb rt.lt
  replace HB := HB.trans (hb.mono HB.size)
  replace HR := HR.trans (hb.mono HR.size)
  clear hb
  apply wpX_take (i := 11) rfl rfl (by kernel_rfl) (fun _ _ _ h => h)
  · intro w' hb
    unfold yv
    go_simp
    simp only [yvUpon]
    exact ⟨trivial, rfl⟩
  · go_simp
    exact rfl
  apply wpX_one (i := 12) rfl rfl (by kernel_rfl)
  unfold mild
  go_simp
  simp only [mildUpon]
  refine ⟨trivial, ?_⟩
  with_reducible refine ((unhide K14) _).mono ?_
  rintro e w24 ⟨rfl, hb⟩
  refine ⟨_, rfl, hb.mono HR.size, ?_⟩
  replace rc := rc.below hb rc.lt
  replace rs := rs.below hb rs.lt
  replace ri := ri.below hb ri.lt
  replace gz := gz.below hb gz.lt
  replace rb := rb.below hb rb.lt
  replace ra := ra.below hb ra.lt
  replace rv := rv.below hb rv.lt
  replace rt := rt.below hb rt.lt
  replace HB := HB.trans (hb.mono HB.size)
  replace HR := HR.trans (hb.mono HR.size)
  clear hb
  refine wpX_rest (k := 13) (by kernel_rfl) ?_
  simp only [List.drop_succ_cons, List.drop_zero]
  have rtc0 := rt.cell 0
  have rtc1 := rt.cell 1
  have rtc2 := rt.cell 2
  have rtc3 := rt.cell 3
  have rtc4 := rt.cell 4
  have rtc5 := rt.cell 5
  have rtc6 := rt.cell 6
  have rtc7 := rt.cell 7
  have fr4 := rt.frozen 4
  have fr5 := rt.frozen 5
  have qrc := Qrc.out
  have qrs := Qrs.out
  have qri := Qri.out
  have qgz := Qgz.out
  have qrb := Qrb.out
  have qra := Qra.out
  have qrv := Qrv.out
  have qrt := Qrt.out
  have nrc : ¬ w.heap.size = w13.heap.size + 1 := by omega
  have mrc : ¬ w13.heap.size + 1 = w.heap.size := by omega
  have nrs : ¬ w.heap.size + 1 = w13.heap.size + 1 := by omega
  have mrs : ¬ w13.heap.size + 1 = w.heap.size + 1 := by omega
  have nri : ¬ w.heap.size + 1 + 1 = w13.heap.size + 1 := by omega
  have mri : ¬ w13.heap.size + 1 = w.heap.size + 1 + 1 := by omega
  have ngz : ¬ w.heap.size + 1 + 1 + 1 = w13.heap.size + 1 := by omega
  have mgz : ¬ w13.heap.size + 1 = w.heap.size + 1 + 1 + 1 := by omega
  have nrb : ¬ w5.heap.size = w13.heap.size + 1 := by omega
  have mrb : ¬ w13.heap.size + 1 = w5.heap.size := by omega
  have nra : ¬ w9.heap.size = w13.heap.size + 1 := by omega
  have mra : ¬ w13.heap.size + 1 = w9.heap.size := by omega
  have nrv : ¬ w13.heap.size = w13.heap.size + 1 := by omega
  have mrv : ¬ w13.heap.size + 1 = w13.heap.size := by omega
  clear qrc qrs qri qgz qrb qra qrv qrt
  go_wp2_with fail
  have qrc := Qrc.out
  have qrs := Qrs.out
  have qri := Qri.out
  have qgz := Qgz.out
  have qrb := Qrb.out
  have qra := Qra.out
  have qrv := Qrv.out
  have qrt := Qrt.out
  obtain ⟨w25, hw⟩ : ∃ W, ((w24.setCell ⟨w13.heap.size + 1, 4, none⟩ (.int .i64 PO)).setCell ⟨w13.heap.size + 1, 5, none⟩ (.int .i64 SP)) = W := ⟨_, rfl⟩
  replace rc : Blk w25 (w.heap.size) 35 #[.int .i64 P.m.r, .int .i64 P.m.m, .slice X.A1 X.n1 X.c1, .slice X.A2 X.n2 X.c2, .slice X.A3 X.n3 X.c3, .slice X.A4 X.n4 X.c4, .int .i64 P.m.p, .int .i64 P.m.s, .int .i64 P.m.f, .int .i64 P.l.num, .int .i64 P.l.den, .int .i64 P.l.sup, .int .i64 P.l.fed, .int .i64 P.l.ohm, .int .i64 P.l.bon, .int .i64 P.l.boff, .int .i64 P.l.bohm, .int .i64 P.g, .int .i64 P.d, .int .i64 P.y, .slice X.B1 X.m1 X.d1, .slice X.B2 X.m2 X.d2, .slice X.B3 X.m3 X.d3, .int .i64 P.wi, .int .i64 P.sw] := hw ▸ ((rc.far (by simp <;> omega) _).far (by simp <;> omega) _)
  replace rs : Blk w25 (w.heap.size + 1) 47 #[.int .i64 s.fd, .int .i64 s.fq, .int .i64 s.v, .bool s.b, .int .i64 s.po, .int .i64 s.sp, .slice YA 3 yc, .int .i64 s.tn] := hw ▸ ((rs.far (by simp <;> omega) _).far (by simp <;> omega) _)
  replace ri : Blk w25 (w.heap.size + 1 + 1) 53 #[.int .i64 z.per, .bool z.b0, .bool z.b1, .bool z.b2, .bool z.b3, .bool z.b4, .bool z.b5, .slice GA gn gc, .int .i64 z.ld, .int .i64 z.amb, .bool z.k0, .bool z.k1, .bool z.k2, .bool z.k3, .bool z.k4, .bool z.k5, .bool z.de, .bool z.nb] := hw ▸ ((ri.far (by simp <;> omega) _).far (by simp <;> omega) _)
  replace gz : Blk w25 (w.heap.size + 1 + 1 + 1) 47 #[.int .i64 0, .int .i64 0, .int .i64 0, .bool false, .int .i64 0, .int .i64 0, .slice none 0 0, .int .i64 0] := hw ▸ ((gz.far (by simp <;> omega) _).far (by simp <;> omega) _)
  replace rb : Blk w25 (w5.heap.size) 51 #[.int .i64 z.per, .bool (z.b0 && !z.k0), .bool (z.b1 && !z.k1), .bool (z.b2 && !z.k2), .bool (z.b3 && !z.k3), .bool (z.b4 && !z.k4), .bool (z.b5 && !z.k5), .slice A' n' c'] := hw ▸ ((rb.far (by simp <;> omega) _).far (by simp <;> omega) _)
  replace ra : Blk w25 (w9.heap.size) 67 #[.int .i64 a, .int .i64 b, .int .i64 c] := hw ▸ ((ra.far (by simp <;> omega) _).far (by simp <;> omega) _)
  replace rv : Blk w25 (w13.heap.size) 122 #[.int .i64 VA, .int .i64 VB] := hw ▸ ((rv.far (by simp <;> omega) _).far (by simp <;> omega) _)
  replace rt : Blk w25 (w13.heap.size + 1) 47 #[.int .i64 M, .int .i64 N, .int .i64 0, .bool false, .int .i64 PO, .int .i64 SP, .slice none 0 0, .int .i64 0] := hw ▸ ((rt.set_ 4 _).set_ 5 _)
  replace HB : Below w.heap.size w w25 := hw ▸ ((HB.setCell (by simp <;> omega) _).setCell (by simp <;> omega) _)
  simp only [hw]
  clear hw
  clear rtc0 rtc1 rtc2 rtc3 rtc4 rtc5 rtc6 rtc7 fr4 fr5 nrc mrc nrs mrs nri mri ngz mgz nrb mrb nra mra nrv mrv qrc qrs qri qgz qrb qra qrv qrt
  with_reducible refine ((unhide K15) _).mono ?_
  rintro e w26 ⟨rfl, hb⟩
  replace rc := rc.below hb rc.lt
  replace rs := rs.below hb rs.lt
  replace ri := ri.below hb ri.lt
  replace gz := gz.below hb gz.lt
  replace rb := rb.below hb rb.lt
  replace ra := ra.below hb ra.lt
  replace rv := rv.below hb rv.lt
  replace rt := rt.below hb rt.lt
  replace HB := HB.trans (hb.mono HB.size)
  clear hb
  have rtc0 := rt.cell 0
  have rtc1 := rt.cell 1
  have rtc2 := rt.cell 2
  have rtc3 := rt.cell 3
  have rtc4 := rt.cell 4
  have rtc5 := rt.cell 5
  have rtc6 := rt.cell 6
  have rtc7 := rt.cell 7
  have rcc9 := rc.cell 9
  have rcc10 := rc.cell 10
  have rcc11 := rc.cell 11
  have rcc12 := rc.cell 12
  have rcc13 := rc.cell 13
  have rcc14 := rc.cell 14
  have rcc15 := rc.cell 15
  have rcc16 := rc.cell 16
  have rsc2 := rs.cell 2
  have rsc3 := rs.cell 3
  have ric16 := ri.cell 16
  have ric17 := ri.cell 17
  have fr7 := rt.frozen 7
  have qrc := Qrc.out
  have qrs := Qrs.out
  have qri := Qri.out
  have qgz := Qgz.out
  have qrb := Qrb.out
  have qra := Qra.out
  have qrv := Qrv.out
  have qrt := Qrt.out
  have nrc : ¬ w.heap.size = w13.heap.size + 1 := by omega
  have mrc : ¬ w13.heap.size + 1 = w.heap.size := by omega
  have nrs : ¬ w.heap.size + 1 = w13.heap.size + 1 := by omega
  have mrs : ¬ w13.heap.size + 1 = w.heap.size + 1 := by omega
  have nri : ¬ w.heap.size + 1 + 1 = w13.heap.size + 1 := by omega
  have mri : ¬ w13.heap.size + 1 = w.heap.size + 1 + 1 := by omega
  have ngz : ¬ w.heap.size + 1 + 1 + 1 = w13.heap.size + 1 := by omega
  have mgz : ¬ w13.heap.size + 1 = w.heap.size + 1 + 1 + 1 := by omega
  have nrb : ¬ w5.heap.size = w13.heap.size + 1 := by omega
  have mrb : ¬ w13.heap.size + 1 = w5.heap.size := by omega
  have nra : ¬ w9.heap.size = w13.heap.size + 1 := by omega
  have mra : ¬ w13.heap.size + 1 = w9.heap.size := by omega
  have nrv : ¬ w13.heap.size = w13.heap.size + 1 := by omega
  have mrv : ¬ w13.heap.size + 1 = w13.heap.size := by omega
  clear qrc qrs qri qgz qrb qra qrv qrt
  go_wp2_with (first | (first | (go_at_call 61; (with_reducible refine ((unhide K16) _).mono ?_); rintro e w' ⟨rfl, rfl⟩)))
  have qrc := Qrc.out
  have qrs := Qrs.out
  have qri := Qri.out
  have qgz := Qgz.out
  have qrb := Qrb.out
  have qra := Qra.out
  have qrv := Qrv.out
  have qrt := Qrt.out
  obtain ⟨w27, hw⟩ : ∃ W, (w26.setCell ⟨w13.heap.size + 1, 7, none⟩ (.int .i64 TN)) = W := ⟨_, rfl⟩
  replace rc : Blk w27 (w.heap.size) 35 #[.int .i64 P.m.r, .int .i64 P.m.m, .slice X.A1 X.n1 X.c1, .slice X.A2 X.n2 X.c2, .slice X.A3 X.n3 X.c3, .slice X.A4 X.n4 X.c4, .int .i64 P.m.p, .int .i64 P.m.s, .int .i64 P.m.f, .int .i64 P.l.num, .int .i64 P.l.den, .int .i64 P.l.sup, .int .i64 P.l.fed, .int .i64 P.l.ohm, .int .i64 P.l.bon, .int .i64 P.l.boff, .int .i64 P.l.bohm, .int .i64 P.g, .int .i64 P.d, .int .i64 P.y, .slice X.B1 X.m1 X.d1, .slice X.B2 X.m2 X.d2, .slice X.B3 X.m3 X.d3, .int .i64 P.wi, .int .i64 P.sw] := hw ▸ (rc.far (by simp <;> omega) _)
  replace rs : Blk w27 (w.heap.size + 1) 47 #[.int .i64 s.fd, .int .i64 s.fq, .int .i64 s.v, .bool s.b, .int .i64 s.po, .int .i64 s.sp, .slice YA 3 yc, .int .i64 s.tn] := hw ▸ (rs.far (by simp <;> omega) _)
  replace ri : Blk w27 (w.heap.size + 1 + 1) 53 #[.int .i64 z.per, .bool z.b0, .bool z.b1, .bool z.b2, .bool z.b3, .bool z.b4, .bool z.b5, .slice GA gn gc, .int .i64 z.ld, .int .i64 z.amb, .bool z.k0, .bool z.k1, .bool z.k2, .bool z.k3, .bool z.k4, .bool z.k5, .bool z.de, .bool z.nb] := hw ▸ (ri.far (by simp <;> omega) _)
  replace gz : Blk w27 (w.heap.size + 1 + 1 + 1) 47 #[.int .i64 0, .int .i64 0, .int .i64 0, .bool false, .int .i64 0, .int .i64 0, .slice none 0 0, .int .i64 0] := hw ▸ (gz.far (by simp <;> omega) _)
  replace rb : Blk w27 (w5.heap.size) 51 #[.int .i64 z.per, .bool (z.b0 && !z.k0), .bool (z.b1 && !z.k1), .bool (z.b2 && !z.k2), .bool (z.b3 && !z.k3), .bool (z.b4 && !z.k4), .bool (z.b5 && !z.k5), .slice A' n' c'] := hw ▸ (rb.far (by simp <;> omega) _)
  replace ra : Blk w27 (w9.heap.size) 67 #[.int .i64 a, .int .i64 b, .int .i64 c] := hw ▸ (ra.far (by simp <;> omega) _)
  replace rv : Blk w27 (w13.heap.size) 122 #[.int .i64 VA, .int .i64 VB] := hw ▸ (rv.far (by simp <;> omega) _)
  replace rt : Blk w27 (w13.heap.size + 1) 47 #[.int .i64 M, .int .i64 N, .int .i64 0, .bool false, .int .i64 PO, .int .i64 SP, .slice none 0 0, .int .i64 TN] := hw ▸ (rt.set_ 7 _)
  replace HB : Below w.heap.size w w27 := hw ▸ (HB.setCell (by simp <;> omega) _)
  simp only [hw]
  clear hw
  clear rtc0 rtc1 rtc2 rtc3 rtc4 rtc5 rtc6 rtc7 rcc9 rcc10 rcc11 rcc12 rcc13 rcc14 rcc15 rcc16 rsc2 rsc3 ric16 ric17 fr7 nrc mrc nrs mrs nri mri ngz mgz nrb mrb nra mra nrv mrv qrc qrs qri qgz qrb qra qrv qrt
  with_reducible refine ((unhide K17) _).mono ?_
  rintro e w28 ⟨rfl, hb⟩
  replace rc := rc.below hb rc.lt
  replace rs := rs.below hb rs.lt
  replace ri := ri.below hb ri.lt
  replace gz := gz.below hb gz.lt
  replace rb := rb.below hb rb.lt
  replace ra := ra.below hb ra.lt
  replace rv := rv.below hb rv.lt
  replace rt := rt.below hb rt.lt
  replace HB := HB.trans (hb.mono HB.size)
  clear hb
  have rtc0 := rt.cell 0
  have rtc1 := rt.cell 1
  have rtc2 := rt.cell 2
  have rtc3 := rt.cell 3
  have rtc4 := rt.cell 4
  have rtc5 := rt.cell 5
  have rtc6 := rt.cell 6
  have rtc7 := rt.cell 7
  have fr2 := rt.frozen 2
  have fr3 := rt.frozen 3
  have qrc := Qrc.out
  have qrs := Qrs.out
  have qri := Qri.out
  have qgz := Qgz.out
  have qrb := Qrb.out
  have qra := Qra.out
  have qrv := Qrv.out
  have qrt := Qrt.out
  have nrc : ¬ w.heap.size = w13.heap.size + 1 := by omega
  have mrc : ¬ w13.heap.size + 1 = w.heap.size := by omega
  have nrs : ¬ w.heap.size + 1 = w13.heap.size + 1 := by omega
  have mrs : ¬ w13.heap.size + 1 = w.heap.size + 1 := by omega
  have nri : ¬ w.heap.size + 1 + 1 = w13.heap.size + 1 := by omega
  have mri : ¬ w13.heap.size + 1 = w.heap.size + 1 + 1 := by omega
  have ngz : ¬ w.heap.size + 1 + 1 + 1 = w13.heap.size + 1 := by omega
  have mgz : ¬ w13.heap.size + 1 = w.heap.size + 1 + 1 + 1 := by omega
  have nrb : ¬ w5.heap.size = w13.heap.size + 1 := by omega
  have mrb : ¬ w13.heap.size + 1 = w5.heap.size := by omega
  have nra : ¬ w9.heap.size = w13.heap.size + 1 := by omega
  have mra : ¬ w13.heap.size + 1 = w9.heap.size := by omega
  have nrv : ¬ w13.heap.size = w13.heap.size + 1 := by omega
  have mrv : ¬ w13.heap.size + 1 = w13.heap.size := by omega
  clear qrc qrs qri qgz qrb qra qrv qrt
  go_upto_region 14 with (fail)
  have qrc := Qrc.out
  have qrs := Qrs.out
  have qri := Qri.out
  have qgz := Qgz.out
  have qrb := Qrb.out
  have qra := Qra.out
  have qrv := Qrv.out
  have qrt := Qrt.out
  obtain ⟨w29, hw⟩ : ∃ W, ((w28.setCell ⟨w13.heap.size + 1, 2, none⟩ (.int .i64 LV)).setCell ⟨w13.heap.size + 1, 3, none⟩ (.bool LB)) = W := ⟨_, rfl⟩
  replace rc : Blk w29 (w.heap.size) 35 #[.int .i64 P.m.r, .int .i64 P.m.m, .slice X.A1 X.n1 X.c1, .slice X.A2 X.n2 X.c2, .slice X.A3 X.n3 X.c3, .slice X.A4 X.n4 X.c4, .int .i64 P.m.p, .int .i64 P.m.s, .int .i64 P.m.f, .int .i64 P.l.num, .int .i64 P.l.den, .int .i64 P.l.sup, .int .i64 P.l.fed, .int .i64 P.l.ohm, .int .i64 P.l.bon, .int .i64 P.l.boff, .int .i64 P.l.bohm, .int .i64 P.g, .int .i64 P.d, .int .i64 P.y, .slice X.B1 X.m1 X.d1, .slice X.B2 X.m2 X.d2, .slice X.B3 X.m3 X.d3, .int .i64 P.wi, .int .i64 P.sw] := hw ▸ ((rc.far (by simp <;> omega) _).far (by simp <;> omega) _)
  replace rs : Blk w29 (w.heap.size + 1) 47 #[.int .i64 s.fd, .int .i64 s.fq, .int .i64 s.v, .bool s.b, .int .i64 s.po, .int .i64 s.sp, .slice YA 3 yc, .int .i64 s.tn] := hw ▸ ((rs.far (by simp <;> omega) _).far (by simp <;> omega) _)
  replace ri : Blk w29 (w.heap.size + 1 + 1) 53 #[.int .i64 z.per, .bool z.b0, .bool z.b1, .bool z.b2, .bool z.b3, .bool z.b4, .bool z.b5, .slice GA gn gc, .int .i64 z.ld, .int .i64 z.amb, .bool z.k0, .bool z.k1, .bool z.k2, .bool z.k3, .bool z.k4, .bool z.k5, .bool z.de, .bool z.nb] := hw ▸ ((ri.far (by simp <;> omega) _).far (by simp <;> omega) _)
  replace gz : Blk w29 (w.heap.size + 1 + 1 + 1) 47 #[.int .i64 0, .int .i64 0, .int .i64 0, .bool false, .int .i64 0, .int .i64 0, .slice none 0 0, .int .i64 0] := hw ▸ ((gz.far (by simp <;> omega) _).far (by simp <;> omega) _)
  replace rb : Blk w29 (w5.heap.size) 51 #[.int .i64 z.per, .bool (z.b0 && !z.k0), .bool (z.b1 && !z.k1), .bool (z.b2 && !z.k2), .bool (z.b3 && !z.k3), .bool (z.b4 && !z.k4), .bool (z.b5 && !z.k5), .slice A' n' c'] := hw ▸ ((rb.far (by simp <;> omega) _).far (by simp <;> omega) _)
  replace ra : Blk w29 (w9.heap.size) 67 #[.int .i64 a, .int .i64 b, .int .i64 c] := hw ▸ ((ra.far (by simp <;> omega) _).far (by simp <;> omega) _)
  replace rv : Blk w29 (w13.heap.size) 122 #[.int .i64 VA, .int .i64 VB] := hw ▸ ((rv.far (by simp <;> omega) _).far (by simp <;> omega) _)
  replace rt : Blk w29 (w13.heap.size + 1) 47 #[.int .i64 M, .int .i64 N, .int .i64 LV, .bool LB, .int .i64 PO, .int .i64 SP, .slice none 0 0, .int .i64 TN] := hw ▸ ((rt.set_ 2 _).set_ 3 _)
  replace HB : Below w.heap.size w w29 := hw ▸ ((HB.setCell (by simp <;> omega) _).setCell (by simp <;> omega) _)
  simp only [hw]
  clear hw
  clear rtc0 rtc1 rtc2 rtc3 rtc4 rtc5 rtc6 rtc7 fr2 fr3 nrc mrc nrs mrs nri mri ngz mgz nrb mrb nra mra nrv mrv qrc qrs qri qgz qrb qra qrv qrt
  obtain ⟨w30, hw, sw⟩ := drewX w29
  replace rc : Blk w30 (w.heap.size) 35 #[.int .i64 P.m.r, .int .i64 P.m.m, .slice X.A1 X.n1 X.c1, .slice X.A2 X.n2 X.c2, .slice X.A3 X.n3 X.c3, .slice X.A4 X.n4 X.c4, .int .i64 P.m.p, .int .i64 P.m.s, .int .i64 P.m.f, .int .i64 P.l.num, .int .i64 P.l.den, .int .i64 P.l.sup, .int .i64 P.l.fed, .int .i64 P.l.ohm, .int .i64 P.l.bon, .int .i64 P.l.boff, .int .i64 P.l.bohm, .int .i64 P.g, .int .i64 P.d, .int .i64 P.y, .slice X.B1 X.m1 X.d1, .slice X.B2 X.m2 X.d2, .slice X.B3 X.m3 X.d3, .int .i64 P.wi, .int .i64 P.sw] := hw ▸ rc.drew
  have zrc := rc.lt
  replace rs : Blk w30 (w.heap.size + 1) 47 #[.int .i64 s.fd, .int .i64 s.fq, .int .i64 s.v, .bool s.b, .int .i64 s.po, .int .i64 s.sp, .slice YA 3 yc, .int .i64 s.tn] := hw ▸ rs.drew
  have zrs := rs.lt
  replace ri : Blk w30 (w.heap.size + 1 + 1) 53 #[.int .i64 z.per, .bool z.b0, .bool z.b1, .bool z.b2, .bool z.b3, .bool z.b4, .bool z.b5, .slice GA gn gc, .int .i64 z.ld, .int .i64 z.amb, .bool z.k0, .bool z.k1, .bool z.k2, .bool z.k3, .bool z.k4, .bool z.k5, .bool z.de, .bool z.nb] := hw ▸ ri.drew
  have zri := ri.lt
  replace gz : Blk w30 (w.heap.size + 1 + 1 + 1) 47 #[.int .i64 0, .int .i64 0, .int .i64 0, .bool false, .int .i64 0, .int .i64 0, .slice none 0 0, .int .i64 0] := hw ▸ gz.drew
  have zgz := gz.lt
  replace rb : Blk w30 (w5.heap.size) 51 #[.int .i64 z.per, .bool (z.b0 && !z.k0), .bool (z.b1 && !z.k1), .bool (z.b2 && !z.k2), .bool (z.b3 && !z.k3), .bool (z.b4 && !z.k4), .bool (z.b5 && !z.k5), .slice A' n' c'] := hw ▸ rb.drew
  have zrb := rb.lt
  replace ra : Blk w30 (w9.heap.size) 67 #[.int .i64 a, .int .i64 b, .int .i64 c] := hw ▸ ra.drew
  have zra := ra.lt
  replace rv : Blk w30 (w13.heap.size) 122 #[.int .i64 VA, .int .i64 VB] := hw ▸ rv.drew
  have zrv := rv.lt
  replace rt : Blk w30 (w13.heap.size + 1) 47 #[.int .i64 M, .int .i64 N, .int .i64 LV, .bool LB, .int .i64 PO, .int .i64 SP, .slice none 0 0, .int .i64 TN] := hw ▸ rt.drew
  have zrt := rt.lt
  replace HB : Below w.heap.size w w30 := hw ▸ HB.drew
  refine wp_region_multi (fun i => [7, 11, 12, 15, 16, 17].contains i) (fun i => [7, 11, 12, 15].contains i) w30.heap.size (by kernel_rfl) ?_
  change wpX _ _ _ _ _ _ _ _ _ _ w29.drew
  rw [hw]
  clear hw sw
  have HR := Below.refl w30.heap.size w30
  apply wpX_take (i := 0) rfl rfl (by kernel_rfl) (fun _ _ _ h => h)
  · intro w' hb
    unfold yv
    go_simp
    simp only [yvUpon]
    exact ⟨trivial, rfl⟩
  · go_simp
    exact rfl
  apply wpX_take (i := 1) rfl rfl (by kernel_rfl) (fun _ _ _ h => h)
  · intro w' hb
    have yrc20 := (rc.below hb zrc).cell 20
    have yrc21 := (rc.below hb zrc).cell 21
    have yrc22 := (rc.below hb zrc).cell 22
    unfold yv
    go_simp
    simp only [yvUpon]
    exact ⟨trivial, rfl⟩
  · go_simp
    exact rfl
  apply wpX_take (i := 2) rfl rfl (by kernel_rfl) (fun _ _ _ h => h)
  · intro w' hb
    unfold yv
    go_simp
    simp only [yvUpon]
    exact ⟨trivial, rfl⟩
  · go_simp
    exact rfl
  apply wpX_take (i := 3) rfl rfl (by kernel_rfl) (fun _ _ _ h => h)
  · intro w' hb
    have yrs6 := (rs.below hb zrs).cell 6
    unfold yv
    go_simp
    simp only [yvUpon]
    exact ⟨trivial, rfl⟩
  · go_simp
    exact rfl
  apply wpX_take (i := 4) rfl rfl (by kernel_rfl) (fun _ _ _ h => h)
  · intro w' hb
    have yra0 := (ra.below hb zra).cell 0
    have yra1 := (ra.below hb zra).cell 1
    have yra2 := (ra.below hb zra).cell 2
    unfold yv
    go_simp
    simp only [yvUpon]
    exact ⟨trivial, rfl⟩
  · go_simp
    exact rfl
  apply wpX_take (i := 5) rfl rfl (by kernel_rfl) (fun _ _ _ h => h)
  · intro w' hb
    unfold yv
    go_simp
    simp only [yvUpon]
    exact ⟨trivial, rfl⟩
  · go_simp
    exact rfl
  apply wpX_take (i := 6) rfl rfl (by kernel_rfl) (fun _ _ _ h => h)
  · intro w' hb
    have yrc23 := (rc.below hb zrc).cell 23
    unfold yv
    go_simp
    simp only [yvUpon]
    exact ⟨trivial, rfl⟩
  · go_simp
    exact rfl
  apply wpX_take (i := 8) rfl rfl (by kernel_rfl) (fun _ _ _ h => h)
  · intro w' hb
    have yra0 := (ra.below hb zra).cell 0
    have yra1 := (ra.below hb zra).cell 1
    have yra2 := (ra.below hb zra).cell 2
    unfold yv
    go_simp
    simp only [yvUpon]
    exact ⟨trivial, rfl⟩
  · go_simp
    exact rfl
  apply wpX_take (i := 9) rfl rfl (by kernel_rfl) (fun _ _ _ h => h)
  · intro w' hb
    unfold yv
    go_simp
    simp only [yvUpon]
    exact ⟨trivial, rfl⟩
  · go_simp
    exact rfl
  apply wpX_take (i := 10) rfl rfl (by kernel_rfl) (fun _ _ _ h => h)
  · intro w' hb
    have yrc24 := (rc.below hb zrc).cell 24
    unfold yv
    go_simp
    simp only [yvUpon]
    exact ⟨trivial, rfl⟩
  · go_simp
    exact rfl
  apply wpX_take (i := 13) rfl rfl (by kernel_rfl) (fun _ _ _ h => h)
  · intro w' hb
    unfold yv
    go_simp
    simp only [yvUpon]
    exact ⟨trivial, rfl⟩
  · go_simp
    exact rfl
  apply wpX_take (i := 14) rfl rfl (by kernel_rfl) (fun _ _ _ h => h)
  · intro w' hb
    have yri9 := (ri.below hb zri).cell 9
    unfold yv
    go_simp
    simp only [yvUpon]
    exact ⟨trivial, rfl⟩
  · go_simp
    exact rfl
  apply wpX_one (i := 7) rfl rfl (by kernel_rfl)
  unfold mild
  go_simp
  simp only [mildUpon]
  refine ⟨trivial, ?_⟩
  with_reducible refine ((unhide K18) _).mono ?_
  rintro e w31 ⟨rfl, hb⟩
  refine ⟨_, rfl, hb.mono HR.size, ?_⟩
  replace rc := rc.below hb rc.lt
  replace rs := rs.below hb rs.lt
  replace ri := ri.below hb ri.lt
  replace gz := gz.below hb gz.lt
  replace rb := rb.below hb rb.lt
  replace ra := ra.below hb ra.lt
  replace rv := rv.below hb rv.lt
  replace rt := rt.below hb rt.lt
  replace HB := HB.trans (hb.mono HB.size)
  replace HR := HR.trans (hb.mono HR.size)
  clear hb
  apply wpX_one (i := 11) rfl rfl (by kernel_rfl)
  unfold mild
  go_simp
  simp only [mildUpon]
  refine ⟨trivial, ?_⟩
  with_reducible refine ((unhide K19) _).mono ?_
  rintro e w32 ⟨rfl, hb⟩
  refine ⟨_, rfl, hb.mono HR.size, ?_⟩
  replace rc := rc.below hb rc.lt
  replace rs := rs.below hb rs.lt
  replace ri := ri.below hb ri.lt
  replace gz := gz.below hb gz.lt
  replace rb := rb.below hb rb.lt
  replace ra := ra.below hb ra.lt
  replace rv := rv.below hb rv.lt
  replace rt := rt.below hb rt.lt
  replace HB := HB.trans (hb.mono HB.size)
  replace HR := HR.trans (hb.mono HR.size)
  clear hb
  apply wpX_one (i := 12) rfl rfl (by kernel_rfl)
  unfold mild
  go_simp
  simp only [mildUpon]
  refine ⟨(Below.refl _ _).alloc HR.size _, ?_⟩
  obtain ⟨w33, eW33, sW33, rp, hb⟩ := box w32 #[.int .i64 x, .int .i64 0, .int .i64 y] 3 (g := w32.heap.size) rfl HB (by have := HB.size; omega)
  have Qrp : Hid (w.heap.size ≤ w32.heap.size ∧ w30.heap.size ≤ w32.heap.size ∧ w.heap.size < w32.heap.size ∧ w.heap.size + 1 < w32.heap.size ∧ w.heap.size + 1 + 1 < w32.heap.size ∧ w.heap.size + 1 + 1 + 1 < w32.heap.size ∧ w5.heap.size < w32.heap.size ∧ w9.heap.size < w32.heap.size ∧ w13.heap.size < w32.heap.size ∧ w13.heap.size + 1 < w32.heap.size) := Lib.hid ⟨by have := HB.size; omega, by have := HR.size; omega, by have := rc.lt; omega, by have := rs.lt; omega, by have := ri.lt; omega, by have := gz.lt; omega, by have := rb.lt; omega, by have := ra.lt; omega, by have := rv.lt; omega, by have := rt.lt; omega⟩
  replace rc := rc.al eW33
  replace rs := rs.al eW33
  replace ri := ri.al eW33
  replace gz := gz.al eW33
  replace rb := rb.al eW33
  replace ra := ra.al eW33
  replace rv := rv.al eW33
  replace rt := rt.al eW33
  replace HR : Below w30.heap.size w30 w33 := eW33 ▸ HR.alloc HR.size _
  replace HB := hb
  clear hb
  rw [eW33]
  clear eW33 sW33
  apply wpX_one (i := 15) rfl rfl (by kernel_rfl)
  unfold mild
  go_simp
  simp only [mildUpon]
  refine ⟨trivial, ?_⟩
  have HRT := Lib.hid (And.intro rt.lt gz.lt)
  with_reducible refine ((unhide K20) _ (w32.heap.size) ((L.below HB).more HB.size) ((SY.below HB).more HB.size) (sl_three rp rp.lt)).mono ?_
  rintro e w34 ⟨⟨A, u, rfl, SA, fA⟩, hb⟩
  refine ⟨_, rfl, hb.mono HR.size, ?_⟩
  replace rc := rc.below hb rc.lt
  replace rs := rs.below hb rs.lt
  replace ri := ri.below hb ri.lt
  replace gz := gz.below hb gz.lt
  replace rb := rb.below hb rb.lt
  replace ra := ra.below hb ra.lt
  replace rv := rv.below hb rv.lt
  replace rt := rt.below hb rt.lt
  replace rp := rp.below hb rp.lt
  replace HB := HB.trans (hb.mono HB.size)
  replace HR := HR.trans (hb.mono HR.size)
  clear hb
  have F : Hid (∀ ad : Addr, A = some ad → w13.heap.size + 1 < ad.block ∧ w.heap.size + 1 + 1 + 1 < ad.block) := Lib.hid fun ad h => by have h1 := fA ad h; have h2 := HRT.out; omega
  clear fA HRT
  refine wpX_rest (k := 16) (by kernel_rfl) ?_
  simp only [List.drop_succ_cons, List.drop_zero]
  have rtc0 := rt.cell 0
  have rtc1 := rt.cell 1
  have rtc2 := rt.cell 2
  have rtc3 := rt.cell 3
  have rtc4 := rt.cell 4
  have rtc5 := rt.cell 5
  have rtc6 := rt.cell 6
  have rtc7 := rt.cell 7
  have fr6 := rt.frozen 6
  have qrc := Qrc.out
  have qrs := Qrs.out
  have qri := Qri.out
  have qgz := Qgz.out
  have qrb := Qrb.out
  have qra := Qra.out
  have qrv := Qrv.out
  have qrt := Qrt.out
  have qrp := Qrp.out
  have nrc : ¬ w.heap.size = w13.heap.size + 1 := by omega
  have mrc : ¬ w13.heap.size + 1 = w.heap.size := by omega
  have nrs : ¬ w.heap.size + 1 = w13.heap.size + 1 := by omega
  have mrs : ¬ w13.heap.size + 1 = w.heap.size + 1 := by omega
  have nri : ¬ w.heap.size + 1 + 1 = w13.heap.size + 1 := by omega
  have mri : ¬ w13.heap.size + 1 = w.heap.size + 1 + 1 := by omega
  have ngz : ¬ w.heap.size + 1 + 1 + 1 = w13.heap.size + 1 := by omega
  have mgz : ¬ w13.heap.size + 1 = w.heap.size + 1 + 1 + 1 := by omega
  have nrb : ¬ w5.heap.size = w13.heap.size + 1 := by omega
  have mrb : ¬ w13.heap.size + 1 = w5.heap.size := by omega
  have nra : ¬ w9.heap.size = w13.heap.size + 1 := by omega
  have mra : ¬ w13.heap.size + 1 = w9.heap.size := by omega
  have nrv : ¬ w13.heap.size = w13.heap.size + 1 := by omega
  have mrv : ¬ w13.heap.size + 1 = w13.heap.size := by omega
  have nrp : ¬ w32.heap.size = w13.heap.size + 1 := by omega
  have mrp : ¬ w13.heap.size + 1 = w32.heap.size := by omega
  clear qrc qrs qri qgz qrb qra qrv qrt qrp
  go_upto_region 15 with (fail)
  have qrc := Qrc.out
  have qrs := Qrs.out
  have qri := Qri.out
  have qgz := Qgz.out
  have qrb := Qrb.out
  have qra := Qra.out
  have qrv := Qrv.out
  have qrt := Qrt.out
  have qrp := Qrp.out
  obtain ⟨w35, hw⟩ : ∃ W, (w34.setCell ⟨w13.heap.size + 1, 6, none⟩ (.slice A 3 u)) = W := ⟨_, rfl⟩
  replace rc : Blk w35 (w.heap.size) 35 #[.int .i64 P.m.r, .int .i64 P.m.m, .slice X.A1 X.n1 X.c1, .slice X.A2 X.n2 X.c2, .slice X.A3 X.n3 X.c3, .slice X.A4 X.n4 X.c4, .int .i64 P.m.p, .int .i64 P.m.s, .int .i64 P.m.f, .int .i64 P.l.num, .int .i64 P.l.den, .int .i64 P.l.sup, .int .i64 P.l.fed, .int .i64 P.l.ohm, .int .i64 P.l.bon, .int .i64 P.l.boff, .int .i64 P.l.bohm, .int .i64 P.g, .int .i64 P.d, .int .i64 P.y, .slice X.B1 X.m1 X.d1, .slice X.B2 X.m2 X.d2, .slice X.B3 X.m3 X.d3, .int .i64 P.wi, .int .i64 P.sw] := hw ▸ (rc.far (by simp <;> omega) _)
  replace rs : Blk w35 (w.heap.size + 1) 47 #[.int .i64 s.fd, .int .i64 s.fq, .int .i64 s.v, .bool s.b, .int .i64 s.po, .int .i64 s.sp, .slice YA 3 yc, .int .i64 s.tn] := hw ▸ (rs.far (by simp <;> omega) _)
  replace ri : Blk w35 (w.heap.size + 1 + 1) 53 #[.int .i64 z.per, .bool z.b0, .bool z.b1, .bool z.b2, .bool z.b3, .bool z.b4, .bool z.b5, .slice GA gn gc, .int .i64 z.ld, .int .i64 z.amb, .bool z.k0, .bool z.k1, .bool z.k2, .bool z.k3, .bool z.k4, .bool z.k5, .bool z.de, .bool z.nb] := hw ▸ (ri.far (by simp <;> omega) _)
  replace gz : Blk w35 (w.heap.size + 1 + 1 + 1) 47 #[.int .i64 0, .int .i64 0, .int .i64 0, .bool false, .int .i64 0, .int .i64 0, .slice none 0 0, .int .i64 0] := hw ▸ (gz.far (by simp <;> omega) _)
  replace rb : Blk w35 (w5.heap.size) 51 #[.int .i64 z.per, .bool (z.b0 && !z.k0), .bool (z.b1 && !z.k1), .bool (z.b2 && !z.k2), .bool (z.b3 && !z.k3), .bool (z.b4 && !z.k4), .bool (z.b5 && !z.k5), .slice A' n' c'] := hw ▸ (rb.far (by simp <;> omega) _)
  replace ra : Blk w35 (w9.heap.size) 67 #[.int .i64 a, .int .i64 b, .int .i64 c] := hw ▸ (ra.far (by simp <;> omega) _)
  replace rv : Blk w35 (w13.heap.size) 122 #[.int .i64 VA, .int .i64 VB] := hw ▸ (rv.far (by simp <;> omega) _)
  replace rt : Blk w35 (w13.heap.size + 1) 47 #[.int .i64 M, .int .i64 N, .int .i64 LV, .bool LB, .int .i64 PO, .int .i64 SP, .slice A 3 u, .int .i64 TN] := hw ▸ (rt.set_ 6 _)
  replace rp : Blk w35 (w32.heap.size) 3 #[.int .i64 x, .int .i64 0, .int .i64 y] := hw ▸ (rp.far (by simp <;> omega) _)
  replace HB : Below w.heap.size w w35 := hw ▸ (HB.setCell (by simp <;> omega) _)
  have SA2 : Sl w35 _ 1 A (rows (stps P.h s.h [x, 0, y] z.amb 3)) := hw ▸ SA.far1 (fun ad h => by have := F.out ad h; simp; omega) _
  have z2 : w35.heap.size = w34.heap.size := by rw [← hw]; simp
  simp only [hw]
  clear hw
  clear rtc0 rtc1 rtc2 rtc3 rtc4 rtc5 rtc6 rtc7 fr6 nrc mrc nrs mrs nri mri ngz mgz nrb mrb nra mra nrv mrv nrp mrp qrc qrs qri qgz qrb qra qrv qrt qrp
  have rtx35 := rt
  have qrc := Qrc.out
  have qrs := Qrs.out
  have qri := Qri.out
  have qgz := Qgz.out
  have qrb := Qrb.out
  have qra := Qra.out
  have qrv := Qrv.out
  have qrt := Qrt.out
  have qrp := Qrp.out
  have gzo35 := gz
  obtain ⟨w36, eW36, sW36, hr, hb⟩ := rowX gz #[.int .i64 M, .int .i64 N, .int .i64 LV, .bool LB, .int .i64 PO, .int .i64 SP, .slice A 3 u, .int .i64 TN] (n := w35.heap.size) rfl HB (by omega)
  replace rc := rc.rowTo eW36 (by omega)
  replace rs := rs.rowTo eW36 (by omega)
  replace ri := ri.rowTo eW36 (by omega)
  replace rb := rb.rowTo eW36 (by omega)
  replace ra := ra.rowTo eW36 (by omega)
  replace rv := rv.rowTo eW36 (by omega)
  replace rt := rt.rowTo eW36 (by omega)
  replace rp := rp.rowTo eW36 (by omega)
  replace gz := hr
  replace HB := hb
  clear hb hr qrc qrs qri qgz qrb qra qrv qrt qrp
  go_wp2_with (first | (refine wpList_load_row rfl 47 _ rfl (w13.heap.size + 1) rfl _ _ _ _ rtx35 Tryz.underlying47 rfl (by kernel_rfl) ?_) | (refine wpList_store_row rfl 47 _ _ rfl (w.heap.size + 1 + 1 + 1) #[.int .i64 M, .int .i64 N, .int .i64 LV, .bool LB, .int .i64 PO, .int .i64 SP, .slice A 3 u, .int .i64 TN] rfl rfl _ _ gzo35 (by kernel_rfl) (by kernel_rfl) (by kernel_rfl) ?_; try simp only [eW36]))
  try simp only [eW36]
  exact bodyPost_ret (ret_cell rfl rfl (load_ps gz)) rfl ⟨⟨A, u, rfl, (SA2.rowTo eW36 (fun ad h => by have := F.out ad h; omega)).more (by omega)⟩, HB⟩
theorem rstepP (P : Pc) (X : Pa) (s : Ps) (YA : Option Addr) (yn yc : Nat) (z : Pi) (GA : Option Addr) (gn gc : Nat) (w : World) (L : Py w w.heap.size P X) (SY : Sl w w.heap.size 1 YA (rows s.h)) (ey : yn = s.h.length) (SG : Sl w w.heap.size 3 GA (z.es.map I.Ed.row)) (eg : gn = z.es.length) (gm : gn ≤ 1000000) (hc : stCode P s z = 0) :
    Calls Tryz.prog 16 #[.agg #[.int .i64 P.m.r, .int .i64 P.m.m, .slice X.A1 X.n1 X.c1, .slice X.A2 X.n2 X.c2, .slice X.A3 X.n3 X.c3, .slice X.A4 X.n4 X.c4, .int .i64 P.m.p, .int .i64 P.m.s, .int .i64 P.m.f, .int .i64 P.l.num, .int .i64 P.l.den, .int .i64 P.l.sup, .int .i64 P.l.fed, .int .i64 P.l.ohm, .int .i64 P.l.bon, .int .i64 P.l.boff, .int .i64 P.l.bohm, .int .i64 P.g, .int .i64 P.d, .int .i64 P.y, .slice X.B1 X.m1 X.d1, .slice X.B2 X.m2 X.d2, .slice X.B3 X.m3 X.d3, .int .i64 P.wi, .int .i64 P.sw], .agg #[.int .i64 s.fd, .int .i64 s.fq, .int .i64 s.v, .bool s.b, .int .i64 s.po, .int .i64 s.sp, .slice YA yn yc, .int .i64 s.tn], .agg #[.int .i64 z.per, .bool z.b0, .bool z.b1, .bool z.b2, .bool z.b3, .bool z.b4, .bool z.b5, .slice GA gn gc, .int .i64 z.ld, .int .i64 z.amb, .bool z.k0, .bool z.k1, .bool z.k2, .bool z.k3, .bool z.k4, .bool z.k5, .bool z.de, .bool z.nb]] w fun e w' => (∃ A c, e = .returned (.agg #[.int .i64 (pxS P s z).fd, .int .i64 (pxS P s z).fq, .int .i64 (pxS P s z).v, .bool (pxS P s z).b, .int .i64 (pxS P s z).po, .int .i64 (pxS P s z).sp, .slice A 3 c, .int .i64 (pxS P s z).tn]) ∧ Sl w' w'.heap.size 1 A (rows (pxS P s z).h)) ∧ Below w.heap.size w w' := by
  unfold stCode at hc
  by_cases h1 : plCode P = 0
  case neg => rw [if_pos h1] at hc; omega
  rw [if_neg (by omega)] at hc
  have h2 := in_ok hc
  rcases Bool.eq_false_or_eq_true (offB (zOn z) (zEs z)) with h3 | h3
  · exact rstepP_a P X s YA yn yc z GA gn gc w L SY ey SG eg gm h1 h2.n h2.c h2.s h3
  · exact rstepP_b P X s YA yn yc z GA gn gc w L SY ey SG eg gm h1 h2.n h2.c h2.s h3
end Go.Proofs.YtpfkiohknpeifaaGreat
