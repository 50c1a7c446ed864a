/- The walk of the statement InverterBreaks. -/
import Derived.Test.YtgnojdiecgfeaaaRBreak
import Derived.Test.YtgnojdiecgfeaaaRSame
import Derived.Test.YtgnojdiecgfeaaaChecks
import Derived.Deep.RegionHeld3
namespace Go.Proofs.Ytgnojdiecgfeaaa
open Go.RowKit

/-- The three variables of the statement in memory, the broken signals' edges, and what was there before. -/
structure BS (w0 w : World) (B C D : Nat) (gs ks rs : Array Value) (A' : Option Addr) (R : List (List Value)) : Prop where
  g : Blk w B 25 gs
  k : Blk w C 22 ks
  r : Blk w D 25 rs
  s : Sl w w.heap.size 3 A' R
  b : Below w0.heap.size w0 w
theorem BS.below {w0 w w' : World} {B C D : Nat} {gs ks rs : Array Value} {A' : Option Addr} {R : List (List Value)} (h : BS w0 w B C D gs ks rs A' R) (hb : Below w.heap.size w w') : BS w0 w' B C D gs ks rs A' R :=
  ⟨h.g.below hb h.g.lt, h.k.below hb h.k.lt, h.r.below hb h.r.lt, (h.s.below hb).more hb.size, h.b.trans (hb.mono h.b.size)⟩
theorem BS.drew {w0 w : World} {B C D : Nat} {gs ks rs : Array Value} {A' : Option Addr} {R : List (List Value)} (h : BS w0 w B C D gs ks rs A' R) : BS w0 w.drew B C D gs ks rs A' R :=
  ⟨h.g, h.k, h.r, ⟨h.s.len, h.s.at_⟩, h.b.drew⟩
theorem BS.sl' {Q : Prop} {w0 w : World} {B C D : Nat} {gs ks rs : Array Value} {A' A : Option Addr} {R rows : List (List Value)} {size : Nat} (hE : Sl w0 w0.heap.size size A rows) (h : BS w0 w B C D gs ks rs A' R ∧ Q) : Sl w w.heap.size size A rows := (hE.below h.1.b).more h.1.b.size
theorem BS.s' {Q : Prop} {w0 w : World} {B C D : Nat} {gs ks rs : Array Value} {A' : Option Addr} {R : List (List Value)} (h : BS w0 w B C D gs ks rs A' R ∧ Q) : Sl w w.heap.size 3 A' R := h.1.s
theorem BS.below' {Q : Prop} {w0 w w' : World} {B C D : Nat} {gs ks rs : Array Value} {A' : Option Addr} {R : List (List Value)} (hb : Below w.heap.size w w') (h : BS w0 w B C D gs ks rs A' R ∧ Q) : BS w0 w' B C D gs ks rs A' R := h.1.below hb
theorem BS.one {Q : Prop} {w0 w : World} {B C D : Nat} {gs ks rs : Array Value} {A' : Option Addr} {R : List (List Value)} (h : BS w0 w B C D gs ks rs A' R ∧ Q) : BS w0 w B C D gs ks rs A' R := h.1
theorem BS.all {w w' : World} {B C D : Nat} {per : Int} {b0 b1 b2 b3 b4 b5 k0 k1 k2 k3 k4 k5 c0 c1 c2 c3 c4 c5 : Bool} {A A' : Option Addr} {n c m c' : Nat} {R : List (List Value)} (h : BS w w' B C D #[.int .i64 per, .bool b0, .bool b1, .bool b2, .bool b3, .bool b4, .bool b5, .slice A n c] #[.bool k0, .bool k1, .bool k2, .bool k3, .bool k4, .bool k5] #[.int .i64 per, .bool c0, .bool c1, .bool c2, .bool c3, .bool c4, .bool c5, .slice A' m c'] A' R) :
    BS w w' (B) (C) (D) #[.int .i64 per, .bool b0, .bool b1, .bool b2, .bool b3, .bool b4, .bool b5, .slice A n c] #[.bool k0, .bool k1, .bool k2, .bool k3, .bool k4, .bool k5] #[.int .i64 per, .bool c0, .bool c1, .bool c2, .bool c3, .bool c4, .bool c5, .slice A' m c'] A' R ∧ w'.cell? ⟨B, 0, none⟩ = some (.int .i64 per) ∧ w'.cell? ⟨B, 1, none⟩ = some (.bool b0) ∧ w'.cell? ⟨B, 2, none⟩ = some (.bool b1) ∧ w'.cell? ⟨B, 3, none⟩ = some (.bool b2) ∧ w'.cell? ⟨B, 4, none⟩ = some (.bool b3) ∧ w'.cell? ⟨B, 5, none⟩ = some (.bool b4) ∧ w'.cell? ⟨B, 6, none⟩ = some (.bool b5) ∧ w'.cell? ⟨B, 7, none⟩ = some (.slice A n c) ∧ w'.cell? ⟨C, 0, none⟩ = some (.bool k0) ∧ w'.cell? ⟨C, 1, none⟩ = some (.bool k1) ∧ w'.cell? ⟨C, 2, none⟩ = some (.bool k2) ∧ w'.cell? ⟨C, 3, none⟩ = some (.bool k3) ∧ w'.cell? ⟨C, 4, none⟩ = some (.bool k4) ∧ w'.cell? ⟨C, 5, none⟩ = some (.bool k5) ∧ w'.cell? ⟨D, 0, none⟩ = some (.int .i64 per) ∧ w'.cell? ⟨D, 1, none⟩ = some (.bool c0) ∧ w'.cell? ⟨D, 2, none⟩ = some (.bool c1) ∧ w'.cell? ⟨D, 3, none⟩ = some (.bool c2) ∧ w'.cell? ⟨D, 4, none⟩ = some (.bool c3) ∧ w'.cell? ⟨D, 5, none⟩ = some (.bool c4) ∧ w'.cell? ⟨D, 6, none⟩ = some (.bool c5) ∧ w'.cell? ⟨D, 7, none⟩ = some (.slice A' m c') :=
  ⟨h, h.g.cell 0, h.g.cell 1, h.g.cell 2, h.g.cell 3, h.g.cell 4, h.g.cell 5, h.g.cell 6, h.g.cell 7, h.k.cell 0, h.k.cell 1, h.k.cell 2, h.k.cell 3, h.k.cell 4, h.k.cell 5, h.r.cell 0, h.r.cell 1, h.r.cell 2, h.r.cell 3, h.r.cell 4, h.r.cell 5, h.r.cell 6, h.r.cell 7⟩


set_option maxRecDepth 100000 in
set_option maxHeartbeats 3200000 in
theorem inverterBreaks_walk (per : Int) (b0 b1 b2 b3 b4 b5 k0 k1 k2 k3 k4 k5 : Bool) (A : Option Addr) (n c : Nat) (es : List Ed) (w : World) (hE : Sl w w.heap.size 3 A (es.map Ed.row)) (hn : n = es.length) :
    Calls Try.prog 14 #[.agg #[.int .i64 per, .bool b0, .bool b1, .bool b2, .bool b3, .bool b4, .bool b5, .slice A n c], .agg #[.bool k0, .bool k1, .bool k2, .bool k3, .bool k4, .bool k5]] w fun e w' => e = .returned (.bool true) ∧ Below w.heap.size w w' := by
  have HN := Lib.hid hn
  clear hn
  have hb0 := ((Below.refl w.heap.size w).alloc (Nat.le_refl _) (.cells #[.int .i64 per, .bool b0, .bool b1, .bool b2, .bool b3, .bool b4, .bool b5, .slice A n c] 25)).alloc (by simp) (.cells #[.bool k0, .bool k1, .bool k2, .bool k3, .bool k4, .bool k5] 22)
  have g0 := (Blk.new w 25 #[.int .i64 per, .bool b0, .bool b1, .bool b2, .bool b3, .bool b4, .bool b5, .slice A n c]).alloc (.cells #[.bool k0, .bool k1, .bool k2, .bool k3, .bool k4, .bool k5] 22)
  have g1 := Blk.new' (w := w.alloc (.cells #[.int .i64 per, .bool b0, .bool b1, .bool b2, .bool b3, .bool b4, .bool b5, .slice A n c] 25)) (t := 22) (cs := #[.bool k0, .bool k1, .bool k2, .bool k3, .bool k4, .bool k5]) (g := w.heap.size + 1) (by simp)
  by_cases hbig : 500 < n
  · go_enter Try.func14, Try.ntmps14
    go_wp2_with fail
    refine (awake_walk _).mono ?_
    rintro e w1 ⟨rfl, hb1⟩
    have hbb := hb0.trans (hb1.mono (by simp; omega))
    obtain ⟨x0, x1, x2, x3, x4, x5, x6, x7⟩ := (g0.below hb1 g0.lt).c8
    clear hb0 g0 g1 hb1
    go_wp2_with fail
    refine (awake_walk _).mono ?_
    rintro e w2 ⟨rfl, hb2⟩
    have hbc := hbb.trans (hb2.mono hbb.size)
    go_wp2
    go_ret
    exact ⟨rfl, hbc⟩
  · obtain ⟨bs, hbs⟩ : ∃ bs, brk [k0, k1, k2, k3, k4, k5] es = bs := ⟨_, rfl⟩
    have hbl : bs.length ≤ n := by rw [← hbs, HN.out]; exact brk_length _ _
    have hbr := fun (w1 : World) (hE' : Sl w1 w1.heap.size 3 A (es.map Ed.row)) => break_walk per b0 b1 b2 b3 b4 b5 k0 k1 k2 k3 k4 k5 A n c es w1 hE' HN.out (by omega)
    have hrb := fun (w1 : World) (hE' : Sl w1 w1.heap.size 3 A (es.map Ed.row)) => rbreak_walk per b0 b1 b2 b3 b4 b5 k0 k1 k2 k3 k4 k5 A n c es w1 hE' HN.out (by omega)
    have hao := fun (w1 : World) (hE' : Sl w1 w1.heap.size 3 A (es.map Ed.row)) => allOff_walk per b0 b1 b2 b3 b4 b5 A n c es w1 hE' HN.out (by omega)
    have hra := fun (w1 : World) (hE' : Sl w1 w1.heap.size 3 A (es.map Ed.row)) => rallOff_walk per b0 b1 b2 b3 b4 b5 A n c es w1 hE' HN.out (by omega)
    have hag := agree_six b0 b1 b2 b3 b4 b5 k0 k1 k2 k3 k4 k5
    obtain ⟨c0, e0⟩ : ∃ x, (b0 && !k0) = x := ⟨_, rfl⟩
    obtain ⟨c1, e1⟩ : ∃ x, (b1 && !k1) = x := ⟨_, rfl⟩
    obtain ⟨c2, e2⟩ : ∃ x, (b2 && !k2) = x := ⟨_, rfl⟩
    obtain ⟨c3, e3⟩ : ∃ x, (b3 && !k3) = x := ⟨_, rfl⟩
    obtain ⟨c4, e4⟩ : ∃ x, (b4 && !k4) = x := ⟨_, rfl⟩
    obtain ⟨c5, e5⟩ : ∃ x, (b5 && !k5) = x := ⟨_, rfl⟩
    obtain ⟨ao, hao'⟩ : ∃ x, allOff b0 b1 b2 b3 b4 b5 es = x := ⟨_, rfl⟩
    rw [e0, e1, e2, e3, e4, e5] at hag
    simp only [e0, e1, e2, e3, e4, e5, hbs] at hbr hrb
    simp only [hao'] at hao hra
    have HBR := hide hbr
    have HRB := hide hrb
    have HAO := hide hao
    have HRA := hide hra
    have HAG := Lib.hid hag
    have HBS := Lib.hid hbs
    clear hbr hrb hao hra hag hbs e0 e1 e2 e3 e4 e5 hao'
    go_enter Try.func14, Try.ntmps14
    go_wp2_with fail
    refine (awake_walk _).mono ?_
    rintro e w1 ⟨rfl, hb1⟩
    have hb2 := hb0.trans (hb1.mono (by simp; omega))
    have g01 := g0.below hb1 g0.lt
    have g11 := g1.below hb1 g1.lt
    clear hb0 g0 g1 hb1
    obtain ⟨x0, x1, x2, x3, x4, x5, x6, x7⟩ := g01.c8
    obtain ⟨u0, u1, u2, u3, u4, u5⟩ := g11.c6
    go_wp2_with fail
    refine ((unhide HBR) w1 ((hE.below hb2).more hb2.size)).mono ?_
    rintro e w2 ⟨A', _, c', rfl, rfl, hsl, hb3⟩
    have hvs : BS w (w2.alloc (.cells #[.int .i64 per, .bool c0, .bool c1, .bool c2, .bool c3, .bool c4, .bool c5, .slice A' bs.length c'] 25)) w.heap.size (w.heap.size + 1) w2.heap.size #[.int .i64 per, .bool b0, .bool b1, .bool b2, .bool b3, .bool b4, .bool b5, .slice A n c] #[.bool k0, .bool k1, .bool k2, .bool k3, .bool k4, .bool k5] #[.int .i64 per, .bool c0, .bool c1, .bool c2, .bool c3, .bool c4, .bool c5, .slice A' bs.length c'] A' (bs.map Ed.row) :=
      ⟨(g01.below hb3 g01.lt).alloc _, (g11.below hb3 g11.lt).alloc _, Blk.new _ _ _, (hsl.alloc (Nat.le_refl _) _).more (by simp), (hb2.trans (hb3.mono hb2.size)).alloc (hb2.trans (hb3.mono hb2.size)).size _⟩
    obtain ⟨R, hR⟩ : ∃ R, bs.map Ed.row = R := ⟨_, rfl⟩
    have l1 : w.heap.size < w2.heap.size := Nat.lt_of_lt_of_le g01.lt hb3.size
    have l2 : w.heap.size + 1 < w2.heap.size := Nat.lt_of_lt_of_le g11.lt hb3.size
    clear hb2 hb3 x0 x1 x2 x3 x4 x5 x6 x7 u0 u1 u2 u3 u4 u5 g01 g11 hsl
    obtain ⟨x0, x1, x2, x3, x4, x5, x6, x7⟩ := hvs.g.c8
    obtain ⟨u0, u1, u2, u3, u4, u5⟩ := hvs.k.c6
    obtain ⟨y0, y1, y2, y3, y4, y5, y6, y7⟩ := hvs.r.c8
    rw [hR] at hvs
    have HRR := Lib.hid hR
    clear hR
    go_wp2
    go_region_held3 (fun w' => BS w w' (w.heap.size) (w.heap.size + 1) (w2.heap.size) #[.int .i64 per, .bool b0, .bool b1, .bool b2, .bool b3, .bool b4, .bool b5, .slice A n c] #[.bool k0, .bool k1, .bool k2, .bool k3, .bool k4, .bool k5] #[.int .i64 per, .bool c0, .bool c1, .bool c2, .bool c3, .bool c4, .bool c5, .slice A' bs.length c'] A' R ∧ w'.cell? ⟨w.heap.size, 0, none⟩ = some (.int .i64 per) ∧ w'.cell? ⟨w.heap.size, 1, none⟩ = some (.bool b0) ∧ w'.cell? ⟨w.heap.size, 2, none⟩ = some (.bool b1) ∧ w'.cell? ⟨w.heap.size, 3, none⟩ = some (.bool b2) ∧ w'.cell? ⟨w.heap.size, 4, none⟩ = some (.bool b3) ∧ w'.cell? ⟨w.heap.size, 5, none⟩ = some (.bool b4) ∧ w'.cell? ⟨w.heap.size, 6, none⟩ = some (.bool b5) ∧ w'.cell? ⟨w.heap.size, 7, none⟩ = some (.slice A n c) ∧ w'.cell? ⟨w.heap.size + 1, 0, none⟩ = some (.bool k0) ∧ w'.cell? ⟨w.heap.size + 1, 1, none⟩ = some (.bool k1) ∧ w'.cell? ⟨w.heap.size + 1, 2, none⟩ = some (.bool k2) ∧ w'.cell? ⟨w.heap.size + 1, 3, none⟩ = some (.bool k3) ∧ w'.cell? ⟨w.heap.size + 1, 4, none⟩ = some (.bool k4) ∧ w'.cell? ⟨w.heap.size + 1, 5, none⟩ = some (.bool k5) ∧ w'.cell? ⟨w2.heap.size, 0, none⟩ = some (.int .i64 per) ∧ w'.cell? ⟨w2.heap.size, 1, none⟩ = some (.bool c0) ∧ w'.cell? ⟨w2.heap.size, 2, none⟩ = some (.bool c1) ∧ w'.cell? ⟨w2.heap.size, 3, none⟩ = some (.bool c2) ∧ w'.cell? ⟨w2.heap.size, 4, none⟩ = some (.bool c3) ∧ w'.cell? ⟨w2.heap.size, 5, none⟩ = some (.bool c4) ∧ w'.cell? ⟨w2.heap.size, 6, none⟩ = some (.bool c5) ∧ w'.cell? ⟨w2.heap.size, 7, none⟩ = some (.slice A' bs.length c')) (first | exact BS.all hvs | exact BS.all (BS.drew hvs) | exact BS.all (BS.below' (by assumption) (by assumption)))
      (first | (go_at_call 30; refine ((unhide HAO) _ ?_).mono ?_; (exact BS.sl' hE (by assumption)); rintro e w' ⟨rfl, hbq⟩) | (go_at_call 49; refine ((unhide HRA) _ ?_).mono ?_; (exact BS.sl' hE (by assumption)); rintro e w' ⟨rfl, hbq⟩) | (go_at_call 51; refine ((unhide HRB) _ ?_).mono ?_; (exact BS.sl' hE (by assumption)); rintro e w' ⟨A2, _, cc2, rfl, rfl, hsl2, hbq⟩) | (go_at_call 50; refine (rsame_walk per c0 c1 c2 c3 c4 c5 A' A2 bs.length c' cc2 bs _ ?_ (by assumption) rfl (by omega)).mono ?_; (rw [HRR.out]; exact BS.s' (by assumption)); rintro e w' ⟨rfl, hbq⟩))
    rename_i hz
    have hv3 := BS.one hz
    clear hz hvs x0 x1 x2 x3 x4 x5 x6 x7 u0 u1 u2 u3 u4 u5 y0 y1 y2 y3 y4 y5 y6 y7 HBR HRB HAO HRA
    obtain ⟨x0, x1, x2, x3, x4, x5, x6, x7⟩ := hv3.g.c8
    by_cases hc : chk per es = 0
    · have hc2 : chk per bs = 0 := by rw [← HBS.out]; exact brk_chk _ hc
      have hs1 := fun (w1 : World) (hE' : Sl w1 w1.heap.size 3 A (es.map Ed.row)) => short_walk per b0 b1 b2 b3 b4 b5 A n c es w1 hE' HN.out (by omega)
      have hs2 := fun (w1 : World) (hE' : Sl w1 w1.heap.size 3 A' (bs.map Ed.row)) => short_walk per c0 c1 c2 c3 c4 c5 A' bs.length c' bs w1 hE' rfl (by omega)
      obtain ⟨s1, hsh1⟩ : ∃ x, shortR per [b0, b1, b2, b3, b4, b5] es = x := ⟨_, rfl⟩
      obtain ⟨s2, hsh2⟩ : ∃ x, shortR per [c0, c1, c2, c3, c4, c5] bs = x := ⟨_, rfl⟩
      simp only [hc, hc2, errV_zero, shrt_ok hc, shrt_ok hc2, hsh1, hsh2] at hs1 hs2
      have himp : s2 = true → s1 = true := by
        rw [← hsh1, ← hsh2, ← HBS.out]
        exact brk_short (chk_zero hc).2.2 rfl HAG.out
      have HS1 := hide hs1
      have HS2 := hide hs2
      clear hs1 hs2 hsh1 hsh2 hc hc2
      go_wp2_with fail
      refine ((unhide HS1) _ ((hE.below hv3.b).more hv3.b.size)).mono ?_
      rintro e w4 ⟨rfl, hb4⟩
      have hv4 := hv3.below hb4
      clear x0 x1 x2 x3 x4 x5 x6 x7 hv3 hb4
      obtain ⟨y0, y1, y2, y3, y4, y5, y6, y7⟩ := hv4.r.c8
      go_wp2_with fail
      refine ((unhide HS2) _ (by rw [HRR.out]; exact hv4.s)).mono ?_
      rintro e w5 ⟨rfl, hb5⟩
      have hb6 := hv4.b.trans (hb5.mono hv4.b.size)
      cases s1
      · obtain rfl : s2 = false := by cases s2 <;> simp_all
        go_wp2
        go_ret
        exact ⟨rfl, hb6⟩
      · go_wp2
        go_ret
        exact ⟨rfl, hb6⟩
    · have hs1 := fun (w1 : World) (hE' : Sl w1 w1.heap.size 3 A (es.map Ed.row)) => short_walk per b0 b1 b2 b3 b4 b5 A n c es w1 hE' HN.out (by omega)
      have hs2 := fun (w1 : World) (hE' : Sl w1 w1.heap.size 3 A' (bs.map Ed.row)) => short_walk per c0 c1 c2 c3 c4 c5 A' bs.length c' bs w1 hE' rfl (by omega)
      obtain ⟨s1, hsh1⟩ : ∃ x, shrt per [b0, b1, b2, b3, b4, b5] es = x := ⟨_, rfl⟩
      obtain ⟨s2, hsh2⟩ : ∃ x, shrt per [c0, c1, c2, c3, c4, c5] bs = x := ⟨_, rfl⟩
      obtain ⟨ev, hev⟩ : ∃ x, errV (chk per bs) = x := ⟨_, rfl⟩
      simp only [errV_ne hc, hsh1, hsh2, hev] at hs1 hs2
      have HS1 := hide hs1
      have HS2 := hide hs2
      clear hs1 hs2 hsh1 hsh2 hc hev
      go_wp2_with fail
      refine ((unhide HS1) _ ((hE.below hv3.b).more hv3.b.size)).mono ?_
      rintro e w4 ⟨rfl, hb4⟩
      have hv4 := hv3.below hb4
      clear x0 x1 x2 x3 x4 x5 x6 x7 hv3 hb4
      obtain ⟨y0, y1, y2, y3, y4, y5, y6, y7⟩ := hv4.r.c8
      go_wp2_with fail
      refine ((unhide HS2) _ (by rw [HRR.out]; exact hv4.s)).mono ?_
      rintro e w5 ⟨rfl, hb5⟩
      have hb6 := hv4.b.trans (hb5.mono hv4.b.size)
      go_wp2
      go_ret
      exact ⟨rfl, hb6⟩

end Go.Proofs.Ytgnojdiecgfeaaa
