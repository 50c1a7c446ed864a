/- Part of the proof of BusProof. The walk of layer 24's Run, where nothing is wrong with what it is asked for. -/
import Derived.BigRegion
import Derived.Deep.AppendLies
import Derived.Deep.CutRange
import Derived.Deep.RegionHeld3
import Derived.Deep.RegionLaw
import Derived.StillTailTactics
import Derived.Test.YtbegodiligmphaaGreatDoorQb05
namespace Go.Proofs.YtbegodiligmphaaGreatDoor.I
open Go.RowKit
structure RS (w0 w : World) (G : Nat) (gs ls ps : Array Value) (v : Value) (n : Nat) (rows : List Value) : Prop where
 g : Blk w G 76 gs
 s : Blk w w0.heap.size 128 ls
 p : Blk w (w0.heap.size + 1) 314 ps
 r1 : Blk w (w0.heap.size + 1 + 1) 76 #[.int .i64 0,.bool false,.bool false,.bool false,.bool false,.bool false,.bool false,.slice none 0 0]
 r2 : Blk w (w0.heap.size + 1 + 1 + 1) 128 #[.int .i64 0,.int .i64 0,.int .i64 0,.int .i64 0,.int .i64 0,.int .i64 0]
 own : w.ownsRow (G + 1) 133 3 v n rows
 b : Below w0.heap.size w0 w
theorem RS.below {w0 w w' : World} {G : Nat} {gs ls ps : Array Value} {v : Value} {n : Nat} {rows : List Value} (h : RS w0 w G gs ls ps v n rows) (hb : Below w.heap.size w w') : RS w0 w' G gs ls ps v n rows :=
 ⟨h.g.below hb h.g.lt,h.s.below hb h.s.lt,h.p.below hb h.p.lt,h.r1.below hb h.r1.lt,h.r2.below hb h.r2.lt,own_below h.own hb (Nat.le_refl _),h.b.trans (hb.mono h.b.size)⟩
theorem RS.drew {w0 w : World} {G : Nat} {gs ls ps : Array Value} {v : Value} {n : Nat} {rows : List Value} (h : RS w0 w G gs ls ps v n rows) : RS w0 w.drew G gs ls ps v n rows :=
 ⟨h.g,h.s,h.p,h.r1,h.r2,h.own,h.b.drew⟩
theorem RS.below' {Q : Prop} {w0 w w' : World} {G : Nat} {gs ls ps : Array Value} {v : Value} {n : Nat} {rows : List Value} (hb : Below w.heap.size w w') (h : RS w0 w G gs ls ps v n rows ∧ Q) : RS w0 w' G gs ls ps v n rows := h.1.below hb
theorem RS.one {Q : Prop} {w0 w : World} {G : Nat} {gs ls ps : Array Value} {v : Value} {n : Nat} {rows : List Value} (h : RS w0 w G gs ls ps v n rows ∧ Q) : RS w0 w G gs ls ps v n rows := h.1
theorem RS.all {w0 w : World} {G m : Nat} {gs ls : Array Value} {f o : Nat → Int} {v : Value} {n : Nat} {rows : List Value} (hm : m < 3) (h : RS w0 w G gs ls (cellsP f o) v n rows) :
  RS w0 w G gs ls (cellsP f o) v n rows ∧ w.cell? ⟨w0.heap.size + 1,m * 2,none⟩ = some (.int .i64 (f m)) ∧ w.cell? ⟨w0.heap.size + 1,m * 2 + 1,none⟩ = some (.int .i64 (o m)) :=
 ⟨h,(h.p.cell _).trans (cellsP_f f o hm),(h.p.cell _).trans (cellsP_o f o hm)⟩
theorem RS.set {w0 w : World} {G : Nat} {gs ls ps : Array Value} {v : Value} {n : Nat} {rows : List Value} (h : RS w0 w G gs ls ps v n rows) (hG : w0.heap.size + 1 + 1 + 1 < G) (i : Nat) (u : Value) : RS w0 (w.setCell ⟨w0.heap.size,i,none⟩ u) G gs (ls.setIfInBounds i u) ps v n rows :=
 ⟨h.g.far (by simp <;> omega) _,h.s.set_ i u,h.p.far (by simp) _,h.r1.far (by simp <;> omega) _,h.r2.far (by simp <;> omega) _,ownsRow_setCell_below h.own (by simp <;> omega) _,h.b.setCell (by simp) _⟩
theorem RS.app {w0 w w1 : World} {G : Nat} {a0 a1 a2 a3 a4 a5 a6 : Value} {ls ps : Array Value} {v v' : Value} {n n' : Nat} {rows rows' : List Value} (h : RS w0 w G #[a0,a1,a2,a3,a4,a5,a6,v] ls ps v n rows) (hG : w0.heap.size + 1 + 1 + 1 < G) (o : Obj)
  (hgrow : (w.drew.alloc o).grownBy w1 v.ownBlock) (hown' : w1.ownsRow (G + 1) 133 3 v' n' rows') : RS w0 (w1.setCell ⟨G,7,none⟩ v') G #[a0,a1,a2,a3,a4,a5,a6,v'] ls ps v' n' rows' := by
 have hne : ∀ g,g < G + 1 → some g ≠ v.ownBlock := fun g hg=>own_ne h.own (.inl hg)
 have hge := own_ge h.own
 have hd := h.drew
 exact ⟨((hd.g.alloc o).grown hgrow (hne _ (by omega))).set_ 7 v',((hd.s.alloc o).grown hgrow (hne _ (by omega))).far (by simp <;> omega) _,((hd.p.alloc o).grown hgrow (hne _ (by omega))).far (by simp <;> omega) _,((hd.r1.alloc o).grown hgrow (hne _ (by omega))).far (by simp <;> omega) _,((hd.r2.alloc o).grown hgrow (hne _ (by omega))).far (by simp <;> omega) _,ownsRow_setCell_below hown' (Nat.lt_succ_self _) _,((hd.b.alloc hd.b.size o).grown hgrow (by have := h.b.size; have e : w.drew.heap.size = w.heap.size := rfl; simp <;> omega) (fun g hg=>by have := hge g hg; omega)).setCell (by simp <;> omega) _⟩
theorem ret_cct {P : Program} {fn : Func} {p q u : Tmp} {ty ty2 : TypeId} (h : fn.results = #[.cell p ty,.cell q ty2,.tmp u]) {tmps : Array Value} {w : World} {a b : Addr} {v v2 : Value}
  (hp : tmps.getD p undef = .pointer (some a)) (hq : tmps.getD q undef = .pointer (some b)) (hl : (loadVar ty a).run P w = .ok v w) (hl2 : (loadVar ty2 b).run P w = .ok v2 w) : (results fn tmps).run P w = .ok (.tuple #[v,v2,tmps.getD u undef]) w := by
 have hp' : tmps[p]?.getD undef = .pointer (some a) := by simpa using hp
 have hq' : tmps[q]?.getD undef = .pointer (some b) := by simpa using hq
 simp only [results,h]
 simp [asAddr,hp',hq',hl,hl2]
set_option maxRecDepth 100000 in
set_option maxHeartbeats 6400000 in
theorem run_walk (x : Nat → Lg) (f o : Nat → Int) (per dead trip : Int) (w : World) (hc : rngOk (x 0) (x 1) (x 2) per dead = true) (ht0 : 0 ≤ trip) (ht1 : trip ≤ per)
  (hf0 : 0 ≤ f 0) (hg0 : f 0 ≤ o 0) (ho0 : o 0 ≤ per) (hf1 : 0 ≤ f 1) (hg1 : f 1 ≤ o 1) (ho1 : o 1 ≤ per) (hf2 : 0 ≤ f 2) (hg2 : f 2 ≤ o 2) (ho2 : o 2 ≤ per) (r : Rq) (hr : r = ⟨per,dead,trip,f,o,x⟩) :
  Calls Tryz.prog 169 #[.agg (cellsL x),.agg (cellsP f o),.int .i64 per,.int .i64 dead,.int .i64 trip] w fun e w'=>∃ A n c,
   e = .returned (.tuple #[.agg #[.int .i64 per,.bool ((x 0).s == 2),.bool ((x 0).s == 1),.bool ((x 1).s == 2),.bool ((x 1).s == 1),.bool ((x 2).s == 2),.bool ((x 2).s == 1),.slice A n c],.agg (cellsL (fun l=>r.at_ l per.toNat)),.nilIface]) ∧ n = (r.es per.toNat).length ∧ Sl w' w'.heap.size 3 A ((r.es per.toNat).map Ed.row) ∧ (∀ ad,A = some ad → w.heap.size ≤ ad.block) ∧ Below w.heap.size w w' := by
 have hrg := ranges_walk (x 0).s (x 0).j (x 1).s (x 1).j (x 2).s (x 2).j per dead
 rw [show rngOk ⟨(x 0).s,(x 0).j⟩ ⟨(x 1).s,(x 1).j⟩ ⟨(x 2).s,(x 2).j⟩ per dead = true from hc] at hrg
 have HRG := hide hrg
 clear hrg
 obtain ⟨hl,hd1,hd2,hp1,hp2⟩ : (∀ l,l < 3 → Lok (x l)) ∧ 1 ≤ dead ∧ dead ≤ 1024 ∧ 64 ≤ per ∧ per ≤ 4096 := by
  simp only [rngOk,deadOk,perOk,Bool.and_eq_true,decide_eq_true_eq] at hc
  obtain ⟨⟨⟨⟨hc0,hc1⟩,hc2⟩,hp⟩,hd⟩ := hc
  refine ⟨fun l h=>?_,hd.1,hd.2,hp.1,hp.2⟩
  match l,h with
  | 0,_=>exact legOk_lok hc0
  | 1,_=>exact legOk_lok hc1
  | 2,_=>exact legOk_lok hc2
 have HLK := Lib.hid hl
 clear hl
 obtain ⟨q0,hi,hz0,hz1,hz2⟩ := info_parts Tryz.infoEdge
 have HON := hide (on_walk (x 0).s (x 0).j (x 1).s (x 1).j (x 2).s (x 2).j)
 have HRR := Lib.hid hr
 clear hr hc
 unfold cellsL cellsP
 have iy0 := idx51_0 (.int .i64 (f 0)) (.int .i64 (o 0)) (.int .i64 (f 1)) (.int .i64 (o 1)) (.int .i64 (f 2)) (.int .i64 (o 2))
 have iy1 := idx51_1 (.int .i64 (f 0)) (.int .i64 (o 0)) (.int .i64 (f 1)) (.int .i64 (o 1)) (.int .i64 (f 2)) (.int .i64 (o 2))
 have iy2 := idx51_2 (.int .i64 (f 0)) (.int .i64 (o 0)) (.int .i64 (f 1)) (.int .i64 (o 1)) (.int .i64 (f 2)) (.int .i64 (o 2))
 have g0 := (((Blk.new w 128 #[.int .i64 (x 0).s,.int .i64 (x 0).j,.int .i64 (x 1).s,.int .i64 (x 1).j,.int .i64 (x 2).s,.int .i64 (x 2).j]).alloc (.cells #[.int .i64 (f 0),.int .i64 (o 0),.int .i64 (f 1),.int .i64 (o 1),.int .i64 (f 2),.int .i64 (o 2)] 314)).alloc (.cells #[.int .i64 0,.bool false,.bool false,.bool false,.bool false,.bool false,.bool false,.slice none 0 0] 76)).alloc (.cells #[.int .i64 0,.int .i64 0,.int .i64 0,.int .i64 0,.int .i64 0,.int .i64 0] 128)
 have g1 := ((Blk.new' (w := w.alloc (.cells #[.int .i64 (x 0).s,.int .i64 (x 0).j,.int .i64 (x 1).s,.int .i64 (x 1).j,.int .i64 (x 2).s,.int .i64 (x 2).j] 128)) (t := 314) (cs := #[.int .i64 (f 0),.int .i64 (o 0),.int .i64 (f 1),.int .i64 (o 1),.int .i64 (f 2),.int .i64 (o 2)]) (g := w.heap.size + 1) (by simp)).alloc (.cells #[.int .i64 0,.bool false,.bool false,.bool false,.bool false,.bool false,.bool false,.slice none 0 0] 76)).alloc (.cells #[.int .i64 0,.int .i64 0,.int .i64 0,.int .i64 0,.int .i64 0,.int .i64 0] 128)
 have g2 := (Blk.new' (w := (w.alloc (.cells #[.int .i64 (x 0).s,.int .i64 (x 0).j,.int .i64 (x 1).s,.int .i64 (x 1).j,.int .i64 (x 2).s,.int .i64 (x 2).j] 128)).alloc (.cells #[.int .i64 (f 0),.int .i64 (o 0),.int .i64 (f 1),.int .i64 (o 1),.int .i64 (f 2),.int .i64 (o 2)] 314)) (t := 76) (cs := #[.int .i64 0,.bool false,.bool false,.bool false,.bool false,.bool false,.bool false,.slice none 0 0]) (g := w.heap.size + 1 + 1) (by simp)).alloc (.cells #[.int .i64 0,.int .i64 0,.int .i64 0,.int .i64 0,.int .i64 0,.int .i64 0] 128)
 have g3 := (Blk.new' (w := ((w.alloc (.cells #[.int .i64 (x 0).s,.int .i64 (x 0).j,.int .i64 (x 1).s,.int .i64 (x 1).j,.int .i64 (x 2).s,.int .i64 (x 2).j] 128)).alloc (.cells #[.int .i64 (f 0),.int .i64 (o 0),.int .i64 (f 1),.int .i64 (o 1),.int .i64 (f 2),.int .i64 (o 2)] 314)).alloc (.cells #[.int .i64 0,.bool false,.bool false,.bool false,.bool false,.bool false,.bool false,.slice none 0 0] 76)) (t := 128) (cs := #[.int .i64 0,.int .i64 0,.int .i64 0,.int .i64 0,.int .i64 0,.int .i64 0]) (g := w.heap.size + 1 + 1 + 1) (by simp))
 have hb0 := ((((Below.refl w.heap.size w).alloc (Nat.le_refl _) (.cells #[.int .i64 (x 0).s,.int .i64 (x 0).j,.int .i64 (x 1).s,.int .i64 (x 1).j,.int .i64 (x 2).s,.int .i64 (x 2).j] 128)).alloc (by simp) (.cells #[.int .i64 (f 0),.int .i64 (o 0),.int .i64 (f 1),.int .i64 (o 1),.int .i64 (f 2),.int .i64 (o 2)] 314)).alloc (by simp <;> omega) (.cells #[.int .i64 0,.bool false,.bool false,.bool false,.bool false,.bool false,.bool false,.slice none 0 0] 76)).alloc (by simp <;> omega) (.cells #[.int .i64 0,.int .i64 0,.int .i64 0,.int .i64 0,.int .i64 0,.int .i64 0] 128)
 go_enter Tryz.func169,Tryz.ntmps169
 go_wp2_with fail
 refine ((unhide HRG) _).mono ?_
 rintro e w1 ⟨rfl,hb1⟩
 have hb2 := hb0.trans (hb1.mono hb0.size)
 have g01 := g0.below hb1 g0.lt
 have g11 := g1.below hb1 g1.lt
 have g21 := g2.below hb1 g2.lt
 have g31 := g3.below hb1 g3.lt
 clear hb0 hb1 g0 g1 g2 g3
 obtain ⟨y0,y1,y2,y3,y4,y5⟩ := g11.c6
 go_wp2_with fail
 refine (within_yes trip 0 per ht0 ht1 _).mono ?_
 rintro e w' ⟨rfl,rfl⟩
 go_wp2
 clear y0 y1 y2 y3 y4 y5
 go_loopw [35] (fun i wr=>(i = .int .i64 0 ∨ i = .int .i64 1 ∨ i = .int .i64 2 ∨ i = .int .i64 3) ∧ Blk wr w.heap.size 128 #[.int .i64 (x 0).s,.int .i64 (x 0).j,.int .i64 (x 1).s,.int .i64 (x 1).j,.int .i64 (x 2).s,.int .i64 (x 2).j] ∧ Blk wr (w.heap.size + 1) 314 #[.int .i64 (f 0),.int .i64 (o 0),.int .i64 (f 1),.int .i64 (o 1),.int .i64 (f 2),.int .i64 (o 2)] ∧ Blk wr (w.heap.size + 1 + 1) 76 #[.int .i64 0,.bool false,.bool false,.bool false,.bool false,.bool false,.bool false,.slice none 0 0] ∧ Blk wr (w.heap.size + 1 + 1 + 1) 128 #[.int .i64 0,.int .i64 0,.int .i64 0,.int .i64 0,.int .i64 0,.int .i64 0] ∧ Below w.heap.size w wr) (fun i _=>3 - (intOf i).toNat)
 case atStart=>exact ⟨.inl rfl,g01,g11,g21,g31,hb2⟩
 case round =>
 clear g01 g11 g21 g31 hb2
 obtain ⟨hd,h0,h1,h2,h3,hb⟩ := hrel
 rcases hd with rfl | rfl | rfl | rfl
 ·go_wp2
  go_roundw
  case rel=>exact ⟨.inr (.inl rfl),h0.alloc _,h1.alloc _,h2.alloc _,h3.alloc _,hb.alloc hb.size _⟩
  case measure=>simp [intOf]
 ·go_wp2
  go_roundw
  case rel=>exact ⟨.inr (.inr (.inl rfl)),h0.alloc _,h1.alloc _,h2.alloc _,h3.alloc _,hb.alloc hb.size _⟩
  case measure=>simp [intOf]
 ·go_wp2
  go_roundw
  case rel=>exact ⟨.inr (.inr (.inr (rfl))),h0.alloc _,h1.alloc _,h2.alloc _,h3.alloc _,hb.alloc hb.size _⟩
  case measure=>simp [intOf]
 ·obtain ⟨y0,y1,y2,y3,y4,y5⟩ := h0.c6
  clear iy0 iy1 iy2
  go_wp2_with fail
  refine ((unhide HON) _).mono ?_
  rintro e w2 ⟨rfl,hb3⟩
  obtain ⟨c0,hc0⟩ : ∃ c,((x 0).s == 2) = c := ⟨_,rfl⟩
  obtain ⟨c1,hc1⟩ : ∃ c,((x 0).s == 1) = c := ⟨_,rfl⟩
  obtain ⟨c2,hc2⟩ : ∃ c,((x 1).s == 2) = c := ⟨_,rfl⟩
  obtain ⟨c3,hc3⟩ : ∃ c,((x 1).s == 1) = c := ⟨_,rfl⟩
  obtain ⟨c4,hc4⟩ : ∃ c,((x 2).s == 2) = c := ⟨_,rfl⟩
  obtain ⟨c5,hc5⟩ : ∃ c,((x 2).s == 1) = c := ⟨_,rfl⟩
  rw [hc0,hc1,hc2,hc3,hc4,hc5]
  have HC0 := Lib.hid hc0
  have HC1 := Lib.hid hc1
  have HC2 := Lib.hid hc2
  have HC3 := Lib.hid hc3
  have HC4 := Lib.hid hc4
  have HC5 := Lib.hid hc5
  have hbb := (hb.trans (hb3.mono hb.size)).alloc (hb.trans (hb3.mono hb.size)).size (.cells #[.int .i64 per,.bool c0,.bool c1,.bool c2,.bool c3,.bool c4,.bool c5,.slice none 0 0] 76)
  have hrs : RS w (w2.alloc (.cells #[.int .i64 per,.bool c0,.bool c1,.bool c2,.bool c3,.bool c4,.bool c5,.slice none 0 0] 76)) w2.heap.size #[.int .i64 per,.bool c0,.bool c1,.bool c2,.bool c3,.bool c4,.bool c5,.slice none 0 0] (cellsL x) (cellsP f o) (.slice none 0 0) 0 [] :=
   ⟨Blk.new _ _ _,(h0.below hb3 h0.lt).alloc _,(h1.below hb3 h1.lt).alloc _,(h2.below hb3 h2.lt).alloc _,(h3.below hb3 h3.lt).alloc _,World.ownsRow_nil _ _ _ _,hbb⟩
  have hG : w.heap.size + 1 + 1 + 1 < w2.heap.size := (h3.below hb3 h3.lt).lt
  clear hc0 hc1 hc2 hc3 hc4 hc5 hbb h0 h1 h2 h3 hb hb3 y0 y1 y2 y3 y4 y5
  go_wp2
  go_loopw [63] (fun i wr=>∃ (k : Nat) (v : Value) (pre : List Ed),k ≤ per.toNat ∧ i = .int .i64 k ∧ Hid (r.es k = pre) ∧ RS w wr w2.heap.size #[.int .i64 per,.bool c0,.bool c1,.bool c2,.bool c3,.bool c4,.bool c5,v] (cellsL (fun l=>r.at_ l k)) (cellsP f o) v pre.length (pre.map Ed.row).flatten) (fun i _=>per.toNat - (intOf i).toNat)
  case atStart=>exact ⟨0,_,[],Nat.zero_le _,rfl,rfl,by rw [HRR.out]; exact hrs⟩
  case round =>
  have hG2 : w.heap.size + 1 + 1 + 1 < w2.heap.size := hG
  clear hrs
  obtain ⟨k,v,pre,hk,rfl,hpre,hrs⟩ := hrel
  by_cases hlt : (k : Int) < per
  ·go_wp2
   go_loopw [66] (fun i wr=>∃ (m : Nat) (v : Value) (pm : List Ed),m ≤ 3 ∧ i = .int .i64 m ∧ Hid (pre ++ r.tk k m = pm) ∧ RS w wr w2.heap.size #[.int .i64 per,.bool c0,.bool c1,.bool c2,.bool c3,.bool c4,.bool c5,v] (cellsL (mixL m (fun l=>r.at_ l (k + 1)) (fun l=>r.at_ l k))) (cellsP f o) v pm.length (pm.map Ed.row).flatten) (fun i _=>3 - (intOf i).toNat)
   case atStart=>exact ⟨0,_,pre,by omega,rfl,by show _ = _; simp [Rq.tk],by rw [mixL_zero]; exact hrs⟩
   case round =>
   clear hrs
   obtain ⟨m,v,pm,hm,rfl,hpm,hrs⟩ := hrel
   by_cases hm3 : (m : Int) < 3
   ·have hmn : m < 3 := by omega
    obtain ⟨⟨a,d⟩,had⟩ : ∃ L,r.at_ m k = L := ⟨_,rfl⟩
    obtain ⟨v0,hv0⟩ : ∃ v0,wantF (f m) (o m) k trip = v0 := ⟨_,rfl⟩
    have hvc : v0 = 0 ∨ v0 = 1 ∨ v0 = 2 := by rw [← hv0]; exact wantF_cases _ _ _ _
    have hlo : Lok ⟨a,d⟩ := by
     rw [← had]
     exact Rq.lok3 (by rw [HRR.out]; exact HLK.out) m hmn k
    obtain ⟨ha,hd0,hd4⟩ := hlo
    simp only at ha hd0 hd4
    have hwant := fun W=>wanted_walk (f m) (o m) k trip W
    simp only [hv0] at hwant
    have HW := hide hwant
    have HAD := Lib.hid had
    have HV := Lib.hid hv0
    clear hwant had hv0
    obtain ⟨A1,c1',rfl,_,_⟩ := Sl.of_own (rs := pm.map Ed.row) hrs.own (by simp [Ed.row]) (by simp)
    have hpl : pm.length ≤ 20000 := by
     rw [← hpm.out,← hpre.out,List.length_append]
     have h1 := Rq.es_len r k
     have h2 := Rq.tk_len r k m
     omega
    obtain ⟨Lp,hLp⟩ : ∃ Lp,pm.length = Lp := ⟨_,rfl⟩
    rw [hLp] at hrs hpl
    have HLP := Lib.hid hLp
    clear hLp
    go_wp2
    go_region_held3 (fun w'=>RS w w' w2.heap.size #[.int .i64 per,.bool c0,.bool c1,.bool c2,.bool c3,.bool c4,.bool c5,.slice A1 Lp c1'] (cellsL (mixL m (fun l=>r.at_ l (k + 1)) (fun l=>r.at_ l k))) (cellsP f o) (.slice A1 Lp c1') Lp (pm.map Ed.row).flatten ∧ w'.cell? ⟨w.heap.size + 1,m * 2,none⟩ = some (.int .i64 (f m)) ∧ w'.cell? ⟨w.heap.size + 1,m * 2 + 1,none⟩ = some (.int .i64 (o m))) (first | exact RS.all hmn hrs | exact RS.all hmn (RS.drew hrs) | exact RS.all hmn (RS.below' (by assumption) (by assumption)))
     (first | (go_at_call 238; refine ((unhide HW) _).mono ?_; rintro e w' ⟨rfl,hbq⟩))
    rename_i hz
    have hrs2 := RS.one hz
    clear hz hrs hbq
    have hyS : w'.cell? ⟨w.heap.size,m * 2,none⟩ = some (.int .i64 a) := by rw [hrs2.s.cell,cellsL_s _ hmn,mixL_at,HAD.out]
    have hyJ : w'.cell? ⟨w.heap.size,m * 2 + 1,none⟩ = some (.int .i64 d) := by rw [hrs2.s.cell,cellsL_j _ hmn,mixL_at,HAD.out]
    have hfS := hrs2.s.frozen (m * 2)
    have hfJ := hrs2.s.frozen (m * 2 + 1)
    have hsS : w.heap.size < w'.heap.size := hrs2.s.lt
    have hsG : w2.heap.size < w'.heap.size := hrs2.g.lt
    have EMIN : Hid (min (d + 1) 4096 = if 4096 < d + 1 then 4096 else d + 1) := by show _ = _; split <;> omega
    by_cases hoff : isOff ⟨a,d⟩ v0
    ·have hstep : Hid (r.at_ m (k + 1) = ⟨0,1⟩) := by show _ = _; rw [Rq.at_succ,HAD.out,Rq.want,HRR.out]; show legS dead ⟨a,d⟩ (wantF (f m) (o m) k trip) = _; rw [HV.out]; exact if_pos hoff
     have hedge : Hid (r.e m k = [⟨k,numb m a,false⟩]) := by show _ = _; rw [Rq.e,HAD.out,Rq.want,HRR.out]; show legE dead k m ⟨a,d⟩ (wantF (f m) (o m) k trip) = _; rw [HV.out]; exact if_pos hoff
     obtain ⟨hof1,hof2⟩ : a ≠ 0 ∧ a ≠ v0 := hoff
     obtain ⟨nb,hnb⟩ : ∃ nb,numb m a = nb := ⟨_,rfl⟩
     have hnum := fun W=>number_walk m a (by omega) (by omega) W
     simp only [hnb] at hnum
     have HNU := hide hnum
     have HNB := Lib.hid hnb
     clear hnum hnb
     have hones : ∀ u ∈ [Value.int .i64 k,.int .i64 nb,.bool false],u.oneCell' = true := by
      intro u hu; simp at hu; rcases hu with h | h | h <;> subst h <;> rfl
     have h63 : Lp + 1 ≤ maxLen := by unfold maxLen; omega
     have hby : (Lp + 1) * 24 ≤ 140737488355328 := by omega
     have hownd : w'.drew.ownsRow (w2.heap.size + 1) 133 3 (.slice A1 Lp c1') Lp (pm.map Ed.row).flatten := hrs2.own
     have hbase : w2.heap.size + 1 ≤ (w'.drew.alloc (.cells #[.int .i64 k,.int .i64 nb,.bool false] 133)).heap.size := by have := hrs2.g.lt; simp <;> omega
     obtain ⟨x0,x1,x2,x3,x4,x5,x6,x7⟩ := hrs2.g.c8
     have hb1 : (a != 0) = true := by simpa using hof1
     have hb2 : (a != v0) = true := by simpa using hof2
     have hb3 : (a == 0) = false := by simpa using hof1
     have hb4 : (a == v0) = false := by simpa using hof2
     go_wp2
     go_cut [] from 90 to 149 (fun wx=>∃ (g cap : Nat),RS w wx w2.heap.size #[.int .i64 per,.bool c0,.bool c1,.bool c2,.bool c3,.bool c4,.bool c5,.slice (some ⟨g,0,none⟩) (Lp + 1) cap] (cellsL (mixL m (fun l=>r.at_ l (k + 1)) (fun l=>r.at_ l k))) (cellsP f o) (.slice (some ⟨g,0,none⟩) (Lp + 1) cap) (Lp + 1) ((pm.map Ed.row).flatten ++ [.int .i64 k,.int .i64 nb,.bool false]))
     case first =>
      go_region_law (first | (refine step_append_lies _ (by rfl) _ _ _ (by rfl) (w2.heap.size + 1) 133 q0 _ 3 24 Tryz.underlying74 hi hz0 hz1 hz2 (by rfl) (by decide) _ _ _ (by rfl) (hownd.alloc _) ⟨w'.heap.size,0,none⟩ 1 1 [.int .i64 k,.int .i64 nb,.bool false] (by rfl) (by rfl) (news_alloc _ [_,_,_] _ _ (by simp)) hones (by decide) h63 hby hbase (w'.heap.size + 1) (by simp) ?_; intro g cap w3 hown' hgrow hat hlt1; have hrs3 := RS.app hrs2 hG2 _ hgrow hown'; have fr := ((hrs2.drew.g.alloc _).grown hgrow (own_ne hrs2.own (.inl (Nat.lt_succ_self _)))).frozen 7; have q7 := ((hrs2.drew.g.alloc _).grown hgrow (own_ne hrs2.own (.inl (Nat.lt_succ_self _)))).c8.2.2.2.2.2.2.2) | (go_simp; go_at_call 239; refine ((unhide HNU) _).mono ?_; rintro e w4 ⟨rfl,rfl⟩))
      all_goals
       go_wp2_with fail
       go_meet
       case rel=>exact ⟨_,_,hrs3⟩
     case rest =>
     obtain ⟨g,cap,hrs3⟩ := hcut
     have hyS3 := hrs3.s.cell (m * 2)
     rw [cellsL_s _ hmn,mixL_at,HAD.out] at hyS3
     have hyJ3 := hrs3.s.cell (m * 2 + 1)
     rw [cellsL_j _ hmn,mixL_at,HAD.out] at hyJ3
     have hfS3 := hrs3.s.frozen (m * 2)
     have hfJ3 := hrs3.s.frozen (m * 2 + 1)
     simp only at hyS3 hyJ3
     clear hyS hyJ hfS hfJ x0 x1 x2 x3 x4 x5 x6 x7 hownd hrs2
     by_cases hv0 : v0 = 0
     all_goals
      go_wp2
      go_roundw
      case rel =>
       refine ⟨m + 1,.slice (some ⟨g,0,none⟩) (Lp + 1) cap,pm ++ [⟨k,nb,false⟩],by omega,by go_num,?_,?_⟩
       ·show _ = _
        rw [Rq.tk,← List.append_assoc,hpm.out,hedge.out,HNB.out]
       ·have h4 := ((hrs3.set hG2 (m * 2) (.int .i64 0)).set hG2 (m * 2 + 1) (.int .i64 0)).set hG2 (m * 2 + 1) (.int .i64 1)
        have e4 := cellsL_set3 (fun l=>r.at_ l (k + 1)) (fun l=>r.at_ l k) hmn (.int .i64 0)
        simp only [hstep.out] at e4
        rw [e4] at h4
        simpa [Ed.row,List.flatten_append,HLP.out] using h4
      case measure=>simp [intOf]; omega
    ·by_cases hon : isOn dead ⟨a,d⟩ v0
     ·have hstep : Hid (r.at_ m (k + 1) = ⟨v0,min (d + 1) 4096⟩) := by show _ = _; rw [Rq.at_succ,HAD.out,Rq.want,HRR.out]; show legS dead ⟨a,d⟩ (wantF (f m) (o m) k trip) = _; rw [HV.out]; exact (if_neg hoff).trans (if_pos hon)
      have hedge : Hid (r.e m k = [⟨k,numb m v0,true⟩]) := by show _ = _; rw [Rq.e,HAD.out,Rq.want,HRR.out]; show legE dead k m ⟨a,d⟩ (wantF (f m) (o m) k trip) = _; rw [HV.out]; exact (if_neg hoff).trans (if_pos hon)
      obtain ⟨hon1,hon2,hon3⟩ : a = 0 ∧ v0 ≠ 0 ∧ dead ≤ d := hon
      subst hon1
      clear hoff
      obtain ⟨nb,hnb⟩ : ∃ nb,numb m v0 = nb := ⟨_,rfl⟩
      have hnum := fun W=>number_walk m v0 (by omega) (by omega) W
      simp only [hnb] at hnum
      have HNU := hide hnum
      have HNB := Lib.hid hnb
      clear hnum hnb
      have hones : ∀ u ∈ [Value.int .i64 k,.int .i64 nb,.bool true],u.oneCell' = true := by
       intro u hu; simp at hu; rcases hu with h | h | h <;> subst h <;> rfl
      have h63 : Lp + 1 ≤ maxLen := by unfold maxLen; omega
      have hby : (Lp + 1) * 24 ≤ 140737488355328 := by omega
      have hownd : w'.drew.ownsRow (w2.heap.size + 1) 133 3 (.slice A1 Lp c1') Lp (pm.map Ed.row).flatten := hrs2.own
      have hbase : w2.heap.size + 1 ≤ (w'.drew.alloc (.cells #[.int .i64 k,.int .i64 nb,.bool true] 133)).heap.size := by have := hrs2.g.lt; simp <;> omega
      obtain ⟨x0,x1,x2,x3,x4,x5,x6,x7⟩ := hrs2.g.c8
      go_wp2
      go_cut [] from 90 to 149 (fun wx=>∃ (g cap : Nat),RS w wx w2.heap.size #[.int .i64 per,.bool c0,.bool c1,.bool c2,.bool c3,.bool c4,.bool c5,.slice (some ⟨g,0,none⟩) (Lp + 1) cap] (cellsL (mixL m (fun l=>r.at_ l (k + 1)) (fun l=>r.at_ l k))) (cellsP f o) (.slice (some ⟨g,0,none⟩) (Lp + 1) cap) (Lp + 1) ((pm.map Ed.row).flatten ++ [.int .i64 k,.int .i64 nb,.bool true]))
      case first =>
       go_region_law (first | (refine step_append_lies _ (by rfl) _ _ _ (by rfl) (w2.heap.size + 1) 133 q0 _ 3 24 Tryz.underlying74 hi hz0 hz1 hz2 (by rfl) (by decide) _ _ _ (by rfl) (hownd.alloc _) ⟨w'.heap.size,0,none⟩ 1 1 [.int .i64 k,.int .i64 nb,.bool true] (by rfl) (by rfl) (news_alloc _ [_,_,_] _ _ (by simp)) hones (by decide) h63 hby hbase (w'.heap.size + 1) (by simp) ?_; intro g cap w3 hown' hgrow hat hlt1; have hrs3 := RS.app hrs2 hG2 _ hgrow hown'; have fr := ((hrs2.drew.g.alloc _).grown hgrow (own_ne hrs2.own (.inl (Nat.lt_succ_self _)))).frozen 7; have q7 := ((hrs2.drew.g.alloc _).grown hgrow (own_ne hrs2.own (.inl (Nat.lt_succ_self _)))).c8.2.2.2.2.2.2.2) | (go_simp; go_at_call 239; refine ((unhide HNU) _).mono ?_; rintro e w4 ⟨rfl,rfl⟩))
       all_goals
        go_wp2_with fail
        go_meet
        case rel=>exact ⟨_,_,hrs3⟩
      case rest =>
      obtain ⟨g,cap,hrs3⟩ := hcut
      have hyS3 := hrs3.s.cell (m * 2)
      rw [cellsL_s _ hmn,mixL_at,HAD.out] at hyS3
      have hyJ3 := hrs3.s.cell (m * 2 + 1)
      rw [cellsL_j _ hmn,mixL_at,HAD.out] at hyJ3
      have hfS3 := hrs3.s.frozen (m * 2)
      have hfJ3 := hrs3.s.frozen (m * 2 + 1)
      simp only at hyS3 hyJ3
      clear hyS hyJ hfS hfJ x0 x1 x2 x3 x4 x5 x6 x7 hownd hrs2
      go_wp2
      go_roundw
      case rel =>
       refine ⟨m + 1,.slice (some ⟨g,0,none⟩) (Lp + 1) cap,pm ++ [⟨k,nb,true⟩],by omega,by go_num,?_,?_⟩
       ·show _ = _
        rw [Rq.tk,← List.append_assoc,hpm.out,hedge.out,HNB.out]
       ·have h4 := (hrs3.set hG2 (m * 2) (.int .i64 v0)).set hG2 (m * 2 + 1) (.int .i64 (min (d + 1) 4096))
        have e4 := cellsL_set (fun l=>r.at_ l (k + 1)) (fun l=>r.at_ l k) hmn
        simp only [hstep.out] at e4
        rw [e4,EMIN.out] at h4
        simpa [Ed.row,List.flatten_append,HLP.out] using h4
      case measure=>simp [intOf]; omega
     ·have hstep : Hid (r.at_ m (k + 1) = ⟨a,min (d + 1) 4096⟩) := by show _ = _; rw [Rq.at_succ,HAD.out,Rq.want,HRR.out]; show legS dead ⟨a,d⟩ (wantF (f m) (o m) k trip) = _; rw [HV.out]; exact (if_neg hoff).trans (if_neg hon)
      have hedge : Hid (r.e m k = []) := by show _ = _; rw [Rq.e,HAD.out,Rq.want,HRR.out]; show legE dead k m ⟨a,d⟩ (wantF (f m) (o m) k trip) = _; rw [HV.out]; exact (if_neg hoff).trans (if_neg hon)
      have hcase : (a ≠ 0 ∧ a = v0) ∨ (a = 0 ∧ v0 = 0) ∨ (a = 0 ∧ v0 ≠ 0 ∧ d < dead) := by
       unfold isOff at hoff
       unfold isOn at hon
       simp only at hoff hon
       omega
      clear hoff hon
      rcases hcase with ⟨hn1,hn2⟩ | ⟨hn1,hn2⟩ | ⟨hn1,hn2,hn3⟩
      all_goals
       go_wp2
       go_roundw
       case rel =>
        refine ⟨m + 1,.slice A1 Lp c1',pm,by omega,by go_num,?_,?_⟩
        ·show _ = _
         rw [Rq.tk,← List.append_assoc,hpm.out,hedge.out,List.append_nil]
        ·have h4 := hrs2.set hG2 (m * 2 + 1) (.int .i64 (min (d + 1) 4096))
         have e4 := cellsL_set_s (fun l=>r.at_ l (k + 1)) (fun l=>r.at_ l k) hmn (by simp only [hstep.out,HAD.out])
         simp only [hstep.out] at e4
         rw [e4] at h4
         first
          | (rw [EMIN.out] at h4; simpa [HLP.out] using h4)
          | (rw [show min (d + 1) 4096 = d + 1 by omega] at h4; simpa [HLP.out] using h4)
       case measure=>simp [intOf]; omega
   ·obtain rfl : m = 3 := by omega
    go_wp2
    go_roundw
    case rel =>
     refine ⟨k + 1,v,pm,by omega,by go_num,?_,?_⟩
     ·show _ = _
      rw [Rq.es_succ,hpre.out,← Rq.tk3,hpm.out]
     ·rw [cellsL_mix3] at hrs
      exact hrs
    case measure=>simp [intOf]; omega
  ·obtain rfl : k = per.toNat := by omega
   obtain ⟨A1,c1',rfl,_,_⟩ := Sl.of_own (rs := pre.map Ed.row) hrs.own (by simp [Ed.row]) (by simp)
   obtain ⟨x0,x1,x2,x3,x4,x5,x6,x7⟩ := hrs.g.c8
   obtain ⟨y0,y1,y2,y3,y4,y5⟩ := hrs.s.c6
   obtain ⟨u0,u1,u2,u3,u4,u5,u6,u7⟩ := hrs.r1.c8
   obtain ⟨z0,z1,z2,z3,z4,z5⟩ := hrs.r2.c6
   have fr0 := hrs.r1.frozen 0
   have fr1 := hrs.r1.frozen 1
   have fr2 := hrs.r1.frozen 2
   have fr3 := hrs.r1.frozen 3
   have fr4 := hrs.r1.frozen 4
   have fr5 := hrs.r1.frozen 5
   have fr6 := hrs.r1.frozen 6
   have fr7 := hrs.r1.frozen 7
   have fz0 := hrs.r2.frozen 0
   have fz1 := hrs.r2.frozen 1
   have fz2 := hrs.r2.frozen 2
   have fz3 := hrs.r2.frozen 3
   have fz4 := hrs.r2.frozen 4
   have fz5 := hrs.r2.frozen 5
   obtain ⟨wo,rfl⟩ : ∃ wo : World,wo = wr := ⟨_,rfl⟩
   go_wp2
   go_region
   all_goals
    go_wp2
    refine bodyPost_ret (ret_cct rfl rfl rfl (load_gates (Blk.drew ((((((((((((((hrs.r1.set_ 0 _).set_ 1 _).set_ 2 _).set_ 3 _).set_ 4 _).set_ 5 _).set_ 6 _).set_ 7 _).far (by simp <;> omega) _).far (by simp <;> omega) _).far (by simp <;> omega) _).far (by simp <;> omega) _).far (by simp <;> omega) _).far (by simp <;> omega) _))) (load_legs (Blk.drew ((((((((((((((hrs.r2.far (by simp <;> omega) _).far (by simp <;> omega) _).far (by simp <;> omega) _).far (by simp <;> omega) _).far (by simp <;> omega) _).far (by simp <;> omega) _).far (by simp <;> omega) _).far (by simp <;> omega) _).set_ 0 _).set_ 1 _).set_ 2 _).set_ 3 _).set_ 4 _).set_ 5 _)))) rfl ?_
    obtain ⟨A2,c2',hA2,hsl,hAge⟩ := Sl.of_own (rs := pre.map Ed.row) (World.ownsRow.drew (ownsRow_setCell_below (a := ⟨w.heap.size + 1 + 1 + 1,5,none⟩) (ownsRow_setCell_below (a := ⟨w.heap.size + 1 + 1 + 1,4,none⟩) (ownsRow_setCell_below (a := ⟨w.heap.size + 1 + 1 + 1,3,none⟩) (ownsRow_setCell_below (a := ⟨w.heap.size + 1 + 1 + 1,2,none⟩) (ownsRow_setCell_below (a := ⟨w.heap.size + 1 + 1 + 1,1,none⟩) (ownsRow_setCell_below (a := ⟨w.heap.size + 1 + 1 + 1,0,none⟩) (ownsRow_setCell_below (a := ⟨w.heap.size + 1 + 1,7,none⟩) (ownsRow_setCell_below (a := ⟨w.heap.size + 1 + 1,6,none⟩) (ownsRow_setCell_below (a := ⟨w.heap.size + 1 + 1,5,none⟩) (ownsRow_setCell_below (a := ⟨w.heap.size + 1 + 1,4,none⟩) (ownsRow_setCell_below (a := ⟨w.heap.size + 1 + 1,3,none⟩) (ownsRow_setCell_below (a := ⟨w.heap.size + 1 + 1,2,none⟩) (ownsRow_setCell_below (a := ⟨w.heap.size + 1 + 1,1,none⟩) (ownsRow_setCell_below (a := ⟨w.heap.size + 1 + 1,0,none⟩) hrs.own (by simp <;> omega) _) (by simp <;> omega) _) (by simp <;> omega) _) (by simp <;> omega) _) (by simp <;> omega) _) (by simp <;> omega) _) (by simp <;> omega) _) (by simp <;> omega) _) (by simp <;> omega) _) (by simp <;> omega) _) (by simp <;> omega) _) (by simp <;> omega) _) (by simp <;> omega) _) (by simp <;> omega) _)) (by simp [Ed.row]) (by simp)
    injection hA2 with hA2 _ _
    subst hA2
    refine ⟨A1,pre.length,c1',?_,?_,?_,fun ad h=>by have := hAge ad h; omega,?_⟩
    ·rw [HC0.out,HC1.out,HC2.out,HC3.out,HC4.out,HC5.out]
     rfl
    ·rw [hpre.out]
    ·rw [hpre.out]; exact hsl
    ·exact Below.drew ((((((((((((((hrs.b.setCell (by simp <;> omega) _).setCell (by simp <;> omega) _).setCell (by simp <;> omega) _).setCell (by simp <;> omega) _).setCell (by simp <;> omega) _).setCell (by simp <;> omega) _).setCell (by simp <;> omega) _).setCell (by simp <;> omega) _).setCell (by simp <;> omega) _).setCell (by simp <;> omega) _).setCell (by simp <;> omega) _).setCell (by simp <;> omega) _).setCell (by simp <;> omega) _).setCell (by simp <;> omega) _)
end Go.Proofs.YtbegodiligmphaaGreatDoor.I
