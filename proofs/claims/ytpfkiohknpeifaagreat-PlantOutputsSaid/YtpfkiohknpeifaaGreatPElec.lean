/- The walks of heat.Celsius, plant.losses and plant.electric. -/
import Derived.Test.YtpfkiohknpeifaaGreatPPlant
import Derived.Test.YtpfkiohknpeifaaGreatBox
namespace Go.Proofs.YtpfkiohknpeifaaGreat
open Go.RowKit
/-- The temperatures of the first k nodes. -/
def cels (X : List Int) : Nat → List Int
  | 0 => []
  | k + 1 => cels X k ++ [g X k / 65536]
theorem cels_len (X : List Int) : ∀ k, (cels X k).length = k
  | 0 => rfl
  | k + 1 => by simp [cels, cels_len X k]
/-- What three currents lose. -/
def lossS (a b c f : Int) : Int := lossV a f + lossV b f + lossV c f
theorem lossS_bd (a b c f : Int) : 0 ≤ lossS a b c f ∧ lossS a b c f ≤ 3298534883328 := by
  have h1 := lossV_bd a f
  have h2 := lossV_bd b f
  have h3 := lossV_bd c f
  unfold lossS
  omega
set_option maxRecDepth 100000 in
set_option maxHeartbeats 3200000 in
theorem celM (X : List Int) (A0 : Option Addr) (n c0 : Nat) (w : World) (SX : Sl w w.heap.size 1 A0 (rows X)) (eX : n = X.length) (hn : n ≤ 1000) :
    Calls Tryz.prog 66 #[.slice A0 n c0] w fun e w' => ∃ A c, e = .returned (.slice A n c) ∧ Sl w' w'.heap.size 1 A (rows (cels X n)) ∧ (∀ ad, A = some ad → w.heap.size ≤ ad.block) ∧ Below w.heap.size w w' := by
  have EX := Lib.hid eX
  obtain ⟨i0, hi, hz0, hz1, hz2⟩ := info_of intInfo
  have hb0 := Below.refl w.heap.size w
  clear eX
  go_enter Tryz.func66, Tryz.ntmps66
  go_wp2
  go_loopw [3, 8] (fun v i wr => ∃ (k : Nat) (A : Option Addr) (c : Nat), k ≤ n ∧ i = .int .i64 k ∧ v = .slice A k c ∧ wr.ownsRow w.heap.size 3 1 (.slice A k c) k (rows (cels X k)).flatten ∧ Below w.heap.size w wr) (fun _ i _ => n - (intOf i).toNat)
  case atStart => exact ⟨0, none, 0, Nat.zero_le _, rfl, rfl, World.ownsRow_nil _ _ _ _, hb0⟩
  case round =>
    clear hb0
    obtain ⟨k, A, c, hk, rfl, rfl, hown, hb⟩ := hrel
    by_cases hlt : k < n
    · obtain ⟨ad, p, rfl, hpa, hpb, p0⟩ := (SX.below hb).at1 (k := k) (by have := EX.out; omega)
      have hpb1 : p.block < wr.heap.size := by have := hb.size; omega
      obtain ⟨x, hx⟩ : ∃ x, g X k = x := ⟨_, rfl⟩
      have hs : cels X (k + 1) = cels X k ++ [x / 65536] := by rw [← hx]; rfl
      replace p0 : wr.cell? p = some (.int .i64 x) := by rw [← hx]; exact p0
      obtain ⟨Z, hZ⟩ : ∃ z, x / 65536 = z := ⟨_, rfl⟩
      rw [hZ] at hs
      have HS := Lib.hid hs
      clear hs hx
      have hones : ∀ u ∈ [Value.int .i64 Z], u.oneCell' = true := by
        intro u hu; simp at hu; subst hu; rfl
      have h63 : k + 1 ≤ maxLen := by unfold maxLen; omega
      have hby : (k + 1) * 8 ≤ 140737488355328 := by omega
      have hsz := hb.size
      have hbase : w.heap.size ≤ (wr.alloc (.cells #[.int .i64 Z] 3)).heap.size := by simp; omega
      have hne : ∀ g, g < w.heap.size ∨ wr.heap.size ≤ g → some g ≠ (Value.slice A k c).ownBlock := fun g hg => own_ne hown hg
      have hge := own_ge hown
      skip
      go_wp2_with (first | (at_builtin; refine wpList_append_lies _ (by rfl) _ _ _ (by rfl) w.heap.size 3 i0 _ 1 8 Tryz.underlying22 hi hz0 hz1 hz2 (by rfl) (by decide) _ _ _ (by rfl) (hown.alloc _) ⟨wr.heap.size, 0, none⟩ 1 1 [.int .i64 Z] (by rfl) (by rfl) (news_alloc _ [_] _ _ (by simp)) hones (by decide) h63 hby hbase (wr.heap.size + 1) (by simp) ?_; intro g cap wx hown' hgrow hat hlt1) | fail)
      go_roundw
      case rel =>
        have hN := hb.alloc hb.size (.cells #[.int .i64 Z] 3) |>.grown hgrow (by simp; omega) (fun g hg => by have := hge g hg; omega)
        rw [← rows_app, ← HS.out] at hown'
        exact ⟨k + 1, some ⟨g, 0, none⟩, cap, by omega, by go_num, rfl, hown', hN⟩
      case measure => simp [intOf]; omega
    · obtain rfl : k = n := by omega
      obtain ⟨A', c', hv, hS, hfr⟩ := Sl.of_own (rs := rows (cels X k)) hown (rows_len _) (by rw [rows_length, cels_len])
      injection hv with v1 v2 v3
      subst v1 v3
      go_wp2
      go_ret
      first | exact ⟨A, c, rfl, hS, hfr, hb⟩ | exact ⟨A, ⟨c, rfl⟩, hS, hfr, hb⟩
set_option maxRecDepth 100000 in
set_option maxHeartbeats 1600000 in
theorem lossesM (a b c f : Int) (w : World) : Calls Tryz.prog 46 #[.agg #[.int .i64 a, .int .i64 b, .int .i64 c], .int .i64 f] w fun e w' => e = .returned (.int .i64 (lossS a b c f)) ∧ Below w.heap.size w w' := by
  have b1 := lossV_bd a f
  have b2 := lossV_bd b f
  have b3 := lossV_bd c f
  have h1 := fun W => lossM a f W
  have h2 := fun W => lossM b f W
  have h3 := fun W => lossM c f W
  have hv : lossS a b c f = lossV a f + lossV b f + lossV c f := rfl
  obtain ⟨x, hx⟩ : ∃ x, lossV a f = x := ⟨_, rfl⟩
  obtain ⟨y, hy⟩ : ∃ x, lossV b f = x := ⟨_, rfl⟩
  obtain ⟨z, hz⟩ : ∃ x, lossV c f = x := ⟨_, rfl⟩
  rw [hx] at b1 hv
  rw [hy] at b2 hv
  rw [hz] at b3 hv
  simp only [hx] at h1
  simp only [hy] at h2
  simp only [hz] at h3
  rw [hv]
  have ix0 := I.index3_0 (.int .i64 a) (.int .i64 b) (.int .i64 c)
  have ix1 := I.index3_1 (.int .i64 a) (.int .i64 b) (.int .i64 c)
  have ix2 := I.index3_2 (.int .i64 a) (.int .i64 b) (.int .i64 c)
  have e1 : wrap64 (x + y) = x + y := by unfold wrap64; omega
  have e2 : wrap64 (x + y + z) = x + y + z := by unfold wrap64; omega
  have H1 := hide h1
  have H2 := hide h2
  have H3 := hide h3
  clear h1 h2 h3 hv hx hy hz
  obtain ⟨W1, eW1, sW1, ga_0, bW1⟩ := box w #[.int .i64 a, .int .i64 b, .int .i64 c] 67 (g := w.heap.size) rfl (Below.refl w.heap.size w) (by omega)
  have HB0 := bW1
  have lga_0 := ga_0.lt
  go_enter Tryz.func46, Tryz.ntmps46
  have gac0 := ga_0.cell 0
  have gac1 := ga_0.cell 1
  have gac2 := ga_0.cell 2
  go_wp2
  go_loopw [5, 9] (fun s i wr => ((i = .int .i64 0 ∧ s = .int .i64 0) ∨ (i = .int .i64 1 ∧ s = .int .i64 x) ∨ (i = .int .i64 2 ∧ s = .int .i64 (x + y)) ∨ (i = .int .i64 3 ∧ s = .int .i64 (x + y + z))) ∧ Below w.heap.size w wr) (fun _ i _ => 3 - (intOf i).toNat)
  case atStart => exact ⟨.inl ⟨rfl, rfl⟩, HB0⟩
  case round =>
    obtain ⟨hq, hb⟩ := hrel
    rcases hq with ⟨rfl, rfl⟩ | ⟨rfl, rfl⟩ | ⟨rfl, rfl⟩ | ⟨rfl, rfl⟩
    · go_wp2_with (first | (go_at_call 100; (with_reducible refine ((unhide H1) _).mono ?_); rintro e w' ⟨rfl, rfl⟩))
      go_roundw
      case rel => exact ⟨.inr (.inl ⟨rfl, rfl⟩), hb⟩
      case measure => simp [intOf]
    · go_wp2_with (first | (go_at_call 100; (with_reducible refine ((unhide H2) _).mono ?_); rintro e w' ⟨rfl, rfl⟩))
      go_roundw
      case rel => exact ⟨.inr (.inr (.inl ⟨rfl, rfl⟩)), hb⟩
      case measure => simp [intOf]
    · go_wp2_with (first | (go_at_call 100; (with_reducible refine ((unhide H3) _).mono ?_); rintro e w' ⟨rfl, rfl⟩))
      go_roundw
      case rel => exact ⟨.inr (.inr (.inr ⟨rfl, rfl⟩)), hb⟩
      case measure => simp [intOf]
    · go_wp2
      go_ret
      exact ⟨rfl, hb⟩
theorem ret_cell_tmp2 {P : Program} {fn : Func} {p u x : Tmp} {ty : TypeId} (h : fn.results = #[.cell p ty, .tmp u, .tmp x]) {tmps : Array Value} {w : World} {a : Addr} {v : Value}
    (hp : tmps.getD p undef = .pointer (some a)) (hl : (loadVar ty a).run P w = .ok v w) : (results fn tmps).run P w = .ok (.tuple #[v, tmps.getD u undef, tmps.getD x undef]) w := by
  have hp' : tmps[p]?.getD undef = .pointer (some a) := by simpa using hp
  simp only [results, h]
  simp [asAddr, hp', hl]
theorem fwd_bd {a b c : Int} (ha : 0 ≤ a ∧ a ≤ 67108864) (hb : 0 ≤ b ∧ b ≤ 67108864) (hc : 0 ≤ c ∧ c ≤ 67108864) : (-1099511627776 ≤ I.fwdA a b c ∧ I.fwdA a b c ≤ 1099511627776) ∧ -1099511627776 ≤ I.fwdB b c ∧ I.fwdB b c ≤ 1099511627776 := by
  have h1 := tdiv_abs (2 * a - b - c) 3 (by omega) (B := 1099511627776) (by omega) (by omega)
  have h2 := tdiv_abs ((b - c) * 37837) 65536 (by omega) (B := 1099511627776 * 4) (by omega) (by omega)
  have h3 : -1099511627776 ≤ ((b - c) * 37837).tdiv 65536 ∧ ((b - c) * 37837).tdiv 65536 ≤ 1099511627776 := by
    rcases Int.lt_or_le ((b - c) * 37837) 0 with h | h
    · have e : (b - c) * 37837 = -(-((b - c) * 37837)) := by omega
      rw [e, Int.neg_tdiv, Int.tdiv_eq_ediv_of_nonneg (by omega)]
      omega
    · rw [Int.tdiv_eq_ediv_of_nonneg (by omega)]
      omega
  unfold I.fwdA I.fwdB
  exact ⟨h1, h3⟩
/-- The voltage vector of a period. -/
def vecA (per : Int) (on : List Bool) (es : List I.Ed) (a b c v : Int) : Int := I.fwdA (I.voltP per on es 0 a v) (I.voltP per on es 1 b v) (I.voltP per on es 2 c v)
def vecB (per : Int) (on : List Bool) (es : List I.Ed) (b c v : Int) : Int := I.fwdB (I.voltP per on es 1 b v) (I.voltP per on es 2 c v)
/-- Are all switches off? -/
def offB (on : List Bool) (es : List I.Ed) : Bool := I.allOff (on.getD 0 false) (on.getD 1 false) (on.getD 2 false) (on.getD 3 false) (on.getD 4 false) (on.getD 5 false) es
/-- The flux after a tick. -/
def elD (C : Cf) (fd fq tn v : Int) (per : Int) (on : List Bool) (es : List I.Ed) (at_ a b c : Int) : Int :=
  if offB on es = true then ofD C fd fq else C.m + inX C.dx (stD C fd fq (turnU (vecA per on es a b c v) (vecB per on es b c v) (-at_)) tn - C.m)
def elQ (C : Cf) (fd fq tn v : Int) (per : Int) (on : List Bool) (es : List I.Ed) (at_ a b c : Int) : Int :=
  if offB on es = true then ofQ C fd fq else inX C.qx (stQ C fd fq (turnV (vecA per on es a b c v) (vecB per on es b c v) (-at_)) tn)
set_option maxRecDepth 100000 in
set_option maxHeartbeats 3200000 in
theorem elecM_1 (P : Pc) (X : Pa) (s : Ps) (YA : Option Addr) (yn yc : Nat) (per : Int) (b0 b1 b2 b3 b4 b5 : Bool) (es : List I.Ed) (GA : Option Addr) (gn gc : Nat) (at_ a b c : Int) (w : World) (L : Py w w.heap.size P X) (hc : cfCode P.m = 0)
    (SG : Sl w w.heap.size 3 GA (es.map I.Ed.row)) (eg : gn = es.length) (gm : gn ≤ 1000000) (he : I.err per [b0, b1, b2, b3, b4, b5] es = 0) (h1 : I.allOff b0 b1 b2 b3 b4 b5 es = true) :
    Calls Tryz.prog 41 #[.agg #[.int .i64 P.m.r, .int .i64 P.m.m, .slice X.A1 X.n1 X.c1, .slice X.A2 X.n2 X.c2, .slice X.A3 X.n3 X.c3, .slice X.A4 X.n4 X.c4, .int .i64 P.m.p, .int .i64 P.m.s, .int .i64 P.m.f, .int .i64 P.l.num, .int .i64 P.l.den, .int .i64 P.l.sup, .int .i64 P.l.fed, .int .i64 P.l.ohm, .int .i64 P.l.bon, .int .i64 P.l.boff, .int .i64 P.l.bohm, .int .i64 P.g, .int .i64 P.d, .int .i64 P.y, .slice X.B1 X.m1 X.d1, .slice X.B2 X.m2 X.d2, .slice X.B3 X.m3 X.d3, .int .i64 P.wi, .int .i64 P.sw], .agg #[.int .i64 s.fd, .int .i64 s.fq, .int .i64 s.v, .bool s.b, .int .i64 s.po, .int .i64 s.sp, .slice YA yn yc, .int .i64 s.tn], .agg #[.int .i64 per, .bool b0, .bool b1, .bool b2, .bool b3, .bool b4, .bool b5, .slice GA gn gc], .int .i64 at_, .agg #[.int .i64 a, .int .i64 b, .int .i64 c]] w fun e w' => e = .returned (.tuple #[.agg #[.int .i64 (ofD P.m s.fd s.fq), .int .i64 (ofQ P.m s.fd s.fq)], .int .i64 (I.drawP per [b0, b1, b2, b3, b4, b5] es a b c), .nilIface]) ∧ Below w.heap.size w w' := by
  have k1 := fun (W : World) (h : Sl W W.heap.size 3 GA (es.map I.Ed.row)) => I.draw_walk per b0 b1 b2 b3 b4 b5 GA gn gc es a b c W h eg gm
  have k2 := fun (W : World) (h : Sl W W.heap.size 3 GA (es.map I.Ed.row)) => I.vector_walk per b0 b1 b2 b3 b4 b5 GA gn gc es a b c s.v W h eg gm
  have k3 := fun (W : World) (h : Sl W W.heap.size 3 GA (es.map I.Ed.row)) => I.allOff_walk per b0 b1 b2 b3 b4 b5 GA gn gc es W h eg gm
  have vd : vecA per [b0, b1, b2, b3, b4, b5] es a b c s.v = I.fwdA (I.voltP per [b0, b1, b2, b3, b4, b5] es 0 a s.v) (I.voltP per [b0, b1, b2, b3, b4, b5] es 1 b s.v) (I.voltP per [b0, b1, b2, b3, b4, b5] es 2 c s.v) := rfl
  have vq : vecB per [b0, b1, b2, b3, b4, b5] es b c s.v = I.fwdB (I.voltP per [b0, b1, b2, b3, b4, b5] es 1 b s.v) (I.voltP per [b0, b1, b2, b3, b4, b5] es 2 c s.v) := rfl
  have bb := fwd_bd (I.voltP_bd (per := per) (on := [b0, b1, b2, b3, b4, b5]) (es := es) (leg := 0) (cur := a) (k := s.v)) (I.voltP_bd (per := per) (on := [b0, b1, b2, b3, b4, b5]) (es := es) (leg := 1) (cur := b) (k := s.v)) (I.voltP_bd (per := per) (on := [b0, b1, b2, b3, b4, b5]) (es := es) (leg := 2) (cur := c) (k := s.v))
  rw [← vd, ← vq] at bb
  simp only [he, I.errV_zero] at k1
  simp only [he, I.errV_zero, ← vd, ← vq] at k2
  simp only [h1] at k3
  obtain ⟨A, hA⟩ : ∃ x, vecA per [b0, b1, b2, b3, b4, b5] es a b c s.v = x := ⟨_, rfl⟩
  obtain ⟨B, hB⟩ : ∃ x, vecB per [b0, b1, b2, b3, b4, b5] es b c s.v = x := ⟨_, rfl⟩
  obtain ⟨D, hD⟩ : ∃ x, I.drawP per [b0, b1, b2, b3, b4, b5] es a b c = x := ⟨_, rfl⟩
  simp only [hD] at k1
  simp only [hA, hB] at k2 bb
  rw [hD]
  have k4 := fun (W : World) (h : Py W W.heap.size P X) => goffM P X s.fd s.fq W h hc
  obtain ⟨M, hM⟩ : ∃ x, ofD P.m s.fd s.fq = x := ⟨_, rfl⟩
  obtain ⟨N, hN⟩ : ∃ x, ofQ P.m s.fd s.fq = x := ⟨_, rfl⟩
  simp only [hM, hN] at k4 ⊢
  have K1 := hide k1
  have K2 := hide k2
  have K3 := hide k3
  have K4 := hide k4
  clear k1 k2 k3 k4 vd vq hA hB hD hM hN he h1 hc eg gm
  obtain ⟨W1, eW1, sW1, gc_0, bW1⟩ := box w #[.int .i64 P.m.r, .int .i64 P.m.m, .slice X.A1 X.n1 X.c1, .slice X.A2 X.n2 X.c2, .slice X.A3 X.n3 X.c3, .slice X.A4 X.n4 X.c4, .int .i64 P.m.p, .int .i64 P.m.s, .int .i64 P.m.f, .int .i64 P.l.num, .int .i64 P.l.den, .int .i64 P.l.sup, .int .i64 P.l.fed, .int .i64 P.l.ohm, .int .i64 P.l.bon, .int .i64 P.l.boff, .int .i64 P.l.bohm, .int .i64 P.g, .int .i64 P.d, .int .i64 P.y, .slice X.B1 X.m1 X.d1, .slice X.B2 X.m2 X.d2, .slice X.B3 X.m3 X.d3, .int .i64 P.wi, .int .i64 P.sw] 35 (g := w.heap.size) rfl (Below.refl w.heap.size w) (by omega)
  obtain ⟨W2, eW2, sW2, gs_0, bW2⟩ := box W1 #[.int .i64 s.fd, .int .i64 s.fq, .int .i64 s.v, .bool s.b, .int .i64 s.po, .int .i64 s.sp, .slice YA yn yc, .int .i64 s.tn] 47 (g := w.heap.size + 1) sW1 bW1 (by omega)
  replace gc_0 := gc_0.al eW2
  obtain ⟨W3, eW3, sW3, gg_0, bW3⟩ := box W2 #[.int .i64 per, .bool b0, .bool b1, .bool b2, .bool b3, .bool b4, .bool b5, .slice GA gn gc] 51 (g := w.heap.size + 1 + 1) sW2 bW2 (by omega)
  replace gc_0 := gc_0.al eW3
  replace gs_0 := gs_0.al eW3
  obtain ⟨W4, eW4, sW4, ga_0, bW4⟩ := box W3 #[.int .i64 a, .int .i64 b, .int .i64 c] 67 (g := w.heap.size + 1 + 1 + 1) sW3 bW3 (by omega)
  replace gc_0 := gc_0.al eW4
  replace gs_0 := gs_0.al eW4
  replace gg_0 := gg_0.al eW4
  obtain ⟨W5, eW5, sW5, gz_0, bW5⟩ := box W4 #[.int .i64 0, .int .i64 0] 41 (g := w.heap.size + 1 + 1 + 1 + 1) sW4 bW4 (by omega)
  replace gc_0 := gc_0.al eW5
  replace gs_0 := gs_0.al eW5
  replace gg_0 := gg_0.al eW5
  replace ga_0 := ga_0.al eW5
  have L0 := L
  replace L0 := eW1 ▸ L0.new _
  replace L0 := eW2 ▸ L0.new _
  replace L0 := eW3 ▸ L0.new _
  replace L0 := eW4 ▸ L0.new _
  replace L0 := eW5 ▸ L0.new _
  have HB0 := bW5
  have lgc_0 := gc_0.lt
  have lgs_0 := gs_0.lt
  have lgg_0 := gg_0.lt
  have lga_0 := ga_0.lt
  have lgz_0 := gz_0.lt
  go_enter Tryz.func41, Tryz.ntmps41
  have ggc0 := gg_0.cell 0
  have ggc1 := gg_0.cell 1
  have ggc2 := gg_0.cell 2
  have ggc3 := gg_0.cell 3
  have ggc4 := gg_0.cell 4
  have ggc5 := gg_0.cell 5
  have ggc6 := gg_0.cell 6
  have ggc7 := gg_0.cell 7
  have gac0 := ga_0.cell 0
  have gac1 := ga_0.cell 1
  have gac2 := ga_0.cell 2
  go_wp2_with fail
  with_reducible refine ((unhide K1) _ ((SG.below HB0).more HB0.size)).mono ?_
  rintro e w1 ⟨rfl, hb1⟩
  have HB1 := HB0.trans (hb1.mono HB0.size)
  have gc_1 := gc_0.below hb1 gc_0.lt
  have lgc_1 := gc_1.lt
  have gs_1 := gs_0.below hb1 gs_0.lt
  have lgs_1 := gs_1.lt
  have gg_1 := gg_0.below hb1 gg_0.lt
  have lgg_1 := gg_1.lt
  have ga_1 := ga_0.below hb1 ga_0.lt
  have lga_1 := ga_1.lt
  have gz_1 := gz_0.below hb1 gz_0.lt
  have lgz_1 := gz_1.lt
  have L1 := L0.to hb1
  have ggc0 := gg_1.cell 0
  have ggc1 := gg_1.cell 1
  have ggc2 := gg_1.cell 2
  have ggc3 := gg_1.cell 3
  have ggc4 := gg_1.cell 4
  have ggc5 := gg_1.cell 5
  have ggc6 := gg_1.cell 6
  have ggc7 := gg_1.cell 7
  have gac0 := ga_1.cell 0
  have gac1 := ga_1.cell 1
  have gac2 := ga_1.cell 2
  have gsc2 := gs_1.cell 2
  go_wp2_with fail
  with_reducible refine ((unhide K2) _ ((SG.below HB1).more HB1.size)).mono ?_
  rintro e w2 ⟨rfl, hb2⟩
  have HB2 := HB1.trans (hb2.mono HB1.size)
  have gc_2 := gc_1.below hb2 gc_1.lt
  have lgc_2 := gc_2.lt
  have gs_2 := gs_1.below hb2 gs_1.lt
  have lgs_2 := gs_2.lt
  have gg_2 := gg_1.below hb2 gg_1.lt
  have lgg_2 := gg_2.lt
  have ga_2 := ga_1.below hb2 ga_1.lt
  have lga_2 := ga_2.lt
  have gz_2 := gz_1.below hb2 gz_1.lt
  have lgz_2 := gz_2.lt
  have L2 := L1.to hb2
  have ggc0 := gg_2.cell 0
  have ggc1 := gg_2.cell 1
  have ggc2 := gg_2.cell 2
  have ggc3 := gg_2.cell 3
  have ggc4 := gg_2.cell 4
  have ggc5 := gg_2.cell 5
  have ggc6 := gg_2.cell 6
  have ggc7 := gg_2.cell 7
  have lgc_2p : w.heap.size < w2.heap.size + 1 := by have := gc_2.lt; omega
  have lgs_2p : w.heap.size + 1 < w2.heap.size + 1 := by have := gs_2.lt; omega
  have lgg_2p : w.heap.size + 1 + 1 < w2.heap.size + 1 := by have := gg_2.lt; omega
  have lga_2p : w.heap.size + 1 + 1 + 1 < w2.heap.size + 1 := by have := ga_2.lt; omega
  have lgz_2p : w.heap.size + 1 + 1 + 1 + 1 < w2.heap.size + 1 := by have := gz_2.lt; omega
  go_wp2_with fail
  with_reducible refine ((unhide K3) _ ((SG.below (HB2.alloc HB2.size _)).more (HB2.alloc HB2.size _).size)).mono ?_
  rintro e w3 ⟨rfl, hb3⟩
  have HB3 := (HB2.alloc HB2.size _).trans (hb3.mono (by simp; have := HB2.size; omega))
  have gc_3 := (gc_2.alloc _).below hb3 (gc_2.alloc _).lt
  have lgc_3 := gc_3.lt
  have gs_3 := (gs_2.alloc _).below hb3 (gs_2.alloc _).lt
  have lgs_3 := gs_3.lt
  have gg_3 := (gg_2.alloc _).below hb3 (gg_2.alloc _).lt
  have lgg_3 := gg_3.lt
  have ga_3 := (ga_2.alloc _).below hb3 (ga_2.alloc _).lt
  have lga_3 := ga_3.lt
  have gz_3 := (gz_2.alloc _).below hb3 (gz_2.alloc _).lt
  have lgz_3 := gz_3.lt
  have gv_3 := (Blk.new w2 122 #[.int .i64 A, .int .i64 B]).below hb3 (Blk.new w2 122 #[.int .i64 A, .int .i64 B]).lt
  have lgv_3 := gv_3.lt
  have L3 := (L2.new _).to hb3
  have gcc0 := gc_3.cell 0
  have gcc1 := gc_3.cell 1
  have gcc2 := gc_3.cell 2
  have gcc3 := gc_3.cell 3
  have gcc4 := gc_3.cell 4
  have gcc5 := gc_3.cell 5
  have gcc6 := gc_3.cell 6
  have gcc7 := gc_3.cell 7
  have gcc8 := gc_3.cell 8
  have gsc0 := gs_3.cell 0
  have gsc1 := gs_3.cell 1
  have gsc7 := gs_3.cell 7
  go_wp2_with fail
  with_reducible refine ((unhide K4) _ L3).mono ?_
  rintro e w4 ⟨rfl, hb4⟩
  have HB4 := HB3.trans (hb4.mono HB3.size)
  have gc_4 := gc_3.below hb4 gc_3.lt
  have lgc_4 := gc_4.lt
  have gs_4 := gs_3.below hb4 gs_3.lt
  have lgs_4 := gs_4.lt
  have gg_4 := gg_3.below hb4 gg_3.lt
  have lgg_4 := gg_4.lt
  have ga_4 := ga_3.below hb4 ga_3.lt
  have lga_4 := ga_4.lt
  have gz_4 := gz_3.below hb4 gz_3.lt
  have lgz_4 := gz_4.lt
  have gv_4 := gv_3.below hb4 gv_3.lt
  have lgv_4 := gv_4.lt
  have L4 := L3.to hb4
  have gzc0 := gz_4.cell 0
  have gzc1 := gz_4.cell 1
  have f0 := gz_4.frozen 0
  have f1 := gz_4.frozen 1
  go_wp2
  refine bodyPost_ret (ret_cell_tmp2 rfl rfl (load_ms (((gz_4.set_ 0 _).set_ 1 _).alloc _))) rfl ⟨rfl, ?_⟩
  exact ((HB4.setCell (by simp; omega) _).setCell (by simp; omega) _).alloc (by have := HB4.size; simp; omega) _
set_option maxRecDepth 100000 in
set_option maxHeartbeats 3200000 in
theorem elecM_2 (P : Pc) (X : Pa) (s : Ps) (YA : Option Addr) (yn yc : Nat) (per : Int) (b0 b1 b2 b3 b4 b5 : Bool) (es : List I.Ed) (GA : Option Addr) (gn gc : Nat) (at_ a b c : Int) (w : World) (L : Py w w.heap.size P X) (hc : cfCode P.m = 0)
    (SG : Sl w w.heap.size 3 GA (es.map I.Ed.row)) (eg : gn = es.length) (gm : gn ≤ 1000000) (he : I.err per [b0, b1, b2, b3, b4, b5] es = 0) (h1 : I.allOff b0 b1 b2 b3 b4 b5 es = false) :
    Calls Tryz.prog 41 #[.agg #[.int .i64 P.m.r, .int .i64 P.m.m, .slice X.A1 X.n1 X.c1, .slice X.A2 X.n2 X.c2, .slice X.A3 X.n3 X.c3, .slice X.A4 X.n4 X.c4, .int .i64 P.m.p, .int .i64 P.m.s, .int .i64 P.m.f, .int .i64 P.l.num, .int .i64 P.l.den, .int .i64 P.l.sup, .int .i64 P.l.fed, .int .i64 P.l.ohm, .int .i64 P.l.bon, .int .i64 P.l.boff, .int .i64 P.l.bohm, .int .i64 P.g, .int .i64 P.d, .int .i64 P.y, .slice X.B1 X.m1 X.d1, .slice X.B2 X.m2 X.d2, .slice X.B3 X.m3 X.d3, .int .i64 P.wi, .int .i64 P.sw], .agg #[.int .i64 s.fd, .int .i64 s.fq, .int .i64 s.v, .bool s.b, .int .i64 s.po, .int .i64 s.sp, .slice YA yn yc, .int .i64 s.tn], .agg #[.int .i64 per, .bool b0, .bool b1, .bool b2, .bool b3, .bool b4, .bool b5, .slice GA gn gc], .int .i64 at_, .agg #[.int .i64 a, .int .i64 b, .int .i64 c]] w fun e w' => e = .returned (.tuple #[.agg #[.int .i64 (P.m.m + inX P.m.dx (stD P.m s.fd s.fq (turnU (vecA per [b0, b1, b2, b3, b4, b5] es a b c s.v) (vecB per [b0, b1, b2, b3, b4, b5] es b c s.v) (-at_)) s.tn - P.m.m)), .int .i64 (inX P.m.qx (stQ P.m s.fd s.fq (turnV (vecA per [b0, b1, b2, b3, b4, b5] es a b c s.v) (vecB per [b0, b1, b2, b3, b4, b5] es b c s.v) (-at_)) s.tn))], .int .i64 (I.drawP per [b0, b1, b2, b3, b4, b5] es a b c), .nilIface]) ∧ Below w.heap.size w w' := by
  have k1 := fun (W : World) (h : Sl W W.heap.size 3 GA (es.map I.Ed.row)) => I.draw_walk per b0 b1 b2 b3 b4 b5 GA gn gc es a b c W h eg gm
  have k2 := fun (W : World) (h : Sl W W.heap.size 3 GA (es.map I.Ed.row)) => I.vector_walk per b0 b1 b2 b3 b4 b5 GA gn gc es a b c s.v W h eg gm
  have k3 := fun (W : World) (h : Sl W W.heap.size 3 GA (es.map I.Ed.row)) => I.allOff_walk per b0 b1 b2 b3 b4 b5 GA gn gc es W h eg gm
  have vd : vecA per [b0, b1, b2, b3, b4, b5] es a b c s.v = I.fwdA (I.voltP per [b0, b1, b2, b3, b4, b5] es 0 a s.v) (I.voltP per [b0, b1, b2, b3, b4, b5] es 1 b s.v) (I.voltP per [b0, b1, b2, b3, b4, b5] es 2 c s.v) := rfl
  have vq : vecB per [b0, b1, b2, b3, b4, b5] es b c s.v = I.fwdB (I.voltP per [b0, b1, b2, b3, b4, b5] es 1 b s.v) (I.voltP per [b0, b1, b2, b3, b4, b5] es 2 c s.v) := rfl
  have bb := fwd_bd (I.voltP_bd (per := per) (on := [b0, b1, b2, b3, b4, b5]) (es := es) (leg := 0) (cur := a) (k := s.v)) (I.voltP_bd (per := per) (on := [b0, b1, b2, b3, b4, b5]) (es := es) (leg := 1) (cur := b) (k := s.v)) (I.voltP_bd (per := per) (on := [b0, b1, b2, b3, b4, b5]) (es := es) (leg := 2) (cur := c) (k := s.v))
  rw [← vd, ← vq] at bb
  simp only [he, I.errV_zero] at k1
  simp only [he, I.errV_zero, ← vd, ← vq] at k2
  simp only [h1] at k3
  obtain ⟨A, hA⟩ : ∃ x, vecA per [b0, b1, b2, b3, b4, b5] es a b c s.v = x := ⟨_, rfl⟩
  obtain ⟨B, hB⟩ : ∃ x, vecB per [b0, b1, b2, b3, b4, b5] es b c s.v = x := ⟨_, rfl⟩
  obtain ⟨D, hD⟩ : ∃ x, I.drawP per [b0, b1, b2, b3, b4, b5] es a b c = x := ⟨_, rfl⟩
  simp only [hD] at k1
  simp only [hA, hB] at k2 bb
  rw [hD]
  rw [hA, hB]
  have k5 := fun (W : World) => parkM A B at_ bb.1 bb.2 W
  obtain ⟨U, hU⟩ : ∃ x, turnU A B (-at_) = x := ⟨_, rfl⟩
  obtain ⟨V, hV⟩ : ∃ x, turnV A B (-at_) = x := ⟨_, rfl⟩
  simp only [hU, hV] at k5 ⊢
  have k4 := fun (W : World) (h : Py W W.heap.size P X) => gstepM P X s.fd s.fq U V s.tn W h hc
  obtain ⟨M, hM⟩ : ∃ x, P.m.m + inX P.m.dx (stD P.m s.fd s.fq U s.tn - P.m.m) = x := ⟨_, rfl⟩
  obtain ⟨N, hN⟩ : ∃ x, inX P.m.qx (stQ P.m s.fd s.fq V s.tn) = x := ⟨_, rfl⟩
  simp only [hM, hN] at k4 ⊢
  have K5 := hide k5
  clear k5 hU hV
  have K1 := hide k1
  have K2 := hide k2
  have K3 := hide k3
  have K4 := hide k4
  clear k1 k2 k3 k4 vd vq hA hB hD hM hN he h1 hc eg gm
  obtain ⟨W1, eW1, sW1, gc_0, bW1⟩ := box w #[.int .i64 P.m.r, .int .i64 P.m.m, .slice X.A1 X.n1 X.c1, .slice X.A2 X.n2 X.c2, .slice X.A3 X.n3 X.c3, .slice X.A4 X.n4 X.c4, .int .i64 P.m.p, .int .i64 P.m.s, .int .i64 P.m.f, .int .i64 P.l.num, .int .i64 P.l.den, .int .i64 P.l.sup, .int .i64 P.l.fed, .int .i64 P.l.ohm, .int .i64 P.l.bon, .int .i64 P.l.boff, .int .i64 P.l.bohm, .int .i64 P.g, .int .i64 P.d, .int .i64 P.y, .slice X.B1 X.m1 X.d1, .slice X.B2 X.m2 X.d2, .slice X.B3 X.m3 X.d3, .int .i64 P.wi, .int .i64 P.sw] 35 (g := w.heap.size) rfl (Below.refl w.heap.size w) (by omega)
  obtain ⟨W2, eW2, sW2, gs_0, bW2⟩ := box W1 #[.int .i64 s.fd, .int .i64 s.fq, .int .i64 s.v, .bool s.b, .int .i64 s.po, .int .i64 s.sp, .slice YA yn yc, .int .i64 s.tn] 47 (g := w.heap.size + 1) sW1 bW1 (by omega)
  replace gc_0 := gc_0.al eW2
  obtain ⟨W3, eW3, sW3, gg_0, bW3⟩ := box W2 #[.int .i64 per, .bool b0, .bool b1, .bool b2, .bool b3, .bool b4, .bool b5, .slice GA gn gc] 51 (g := w.heap.size + 1 + 1) sW2 bW2 (by omega)
  replace gc_0 := gc_0.al eW3
  replace gs_0 := gs_0.al eW3
  obtain ⟨W4, eW4, sW4, ga_0, bW4⟩ := box W3 #[.int .i64 a, .int .i64 b, .int .i64 c] 67 (g := w.heap.size + 1 + 1 + 1) sW3 bW3 (by omega)
  replace gc_0 := gc_0.al eW4
  replace gs_0 := gs_0.al eW4
  replace gg_0 := gg_0.al eW4
  obtain ⟨W5, eW5, sW5, gz_0, bW5⟩ := box W4 #[.int .i64 0, .int .i64 0] 41 (g := w.heap.size + 1 + 1 + 1 + 1) sW4 bW4 (by omega)
  replace gc_0 := gc_0.al eW5
  replace gs_0 := gs_0.al eW5
  replace gg_0 := gg_0.al eW5
  replace ga_0 := ga_0.al eW5
  have L0 := L
  replace L0 := eW1 ▸ L0.new _
  replace L0 := eW2 ▸ L0.new _
  replace L0 := eW3 ▸ L0.new _
  replace L0 := eW4 ▸ L0.new _
  replace L0 := eW5 ▸ L0.new _
  have HB0 := bW5
  have lgc_0 := gc_0.lt
  have lgs_0 := gs_0.lt
  have lgg_0 := gg_0.lt
  have lga_0 := ga_0.lt
  have lgz_0 := gz_0.lt
  go_enter Tryz.func41, Tryz.ntmps41
  have ggc0 := gg_0.cell 0
  have ggc1 := gg_0.cell 1
  have ggc2 := gg_0.cell 2
  have ggc3 := gg_0.cell 3
  have ggc4 := gg_0.cell 4
  have ggc5 := gg_0.cell 5
  have ggc6 := gg_0.cell 6
  have ggc7 := gg_0.cell 7
  have gac0 := ga_0.cell 0
  have gac1 := ga_0.cell 1
  have gac2 := ga_0.cell 2
  go_wp2_with fail
  with_reducible refine ((unhide K1) _ ((SG.below HB0).more HB0.size)).mono ?_
  rintro e w1 ⟨rfl, hb1⟩
  have HB1 := HB0.trans (hb1.mono HB0.size)
  have gc_1 := gc_0.below hb1 gc_0.lt
  have lgc_1 := gc_1.lt
  have gs_1 := gs_0.below hb1 gs_0.lt
  have lgs_1 := gs_1.lt
  have gg_1 := gg_0.below hb1 gg_0.lt
  have lgg_1 := gg_1.lt
  have ga_1 := ga_0.below hb1 ga_0.lt
  have lga_1 := ga_1.lt
  have gz_1 := gz_0.below hb1 gz_0.lt
  have lgz_1 := gz_1.lt
  have L1 := L0.to hb1
  have ggc0 := gg_1.cell 0
  have ggc1 := gg_1.cell 1
  have ggc2 := gg_1.cell 2
  have ggc3 := gg_1.cell 3
  have ggc4 := gg_1.cell 4
  have ggc5 := gg_1.cell 5
  have ggc6 := gg_1.cell 6
  have ggc7 := gg_1.cell 7
  have gac0 := ga_1.cell 0
  have gac1 := ga_1.cell 1
  have gac2 := ga_1.cell 2
  have gsc2 := gs_1.cell 2
  go_wp2_with fail
  with_reducible refine ((unhide K2) _ ((SG.below HB1).more HB1.size)).mono ?_
  rintro e w2 ⟨rfl, hb2⟩
  have HB2 := HB1.trans (hb2.mono HB1.size)
  have gc_2 := gc_1.below hb2 gc_1.lt
  have lgc_2 := gc_2.lt
  have gs_2 := gs_1.below hb2 gs_1.lt
  have lgs_2 := gs_2.lt
  have gg_2 := gg_1.below hb2 gg_1.lt
  have lgg_2 := gg_2.lt
  have ga_2 := ga_1.below hb2 ga_1.lt
  have lga_2 := ga_2.lt
  have gz_2 := gz_1.below hb2 gz_1.lt
  have lgz_2 := gz_2.lt
  have L2 := L1.to hb2
  have ggc0 := gg_2.cell 0
  have ggc1 := gg_2.cell 1
  have ggc2 := gg_2.cell 2
  have ggc3 := gg_2.cell 3
  have ggc4 := gg_2.cell 4
  have ggc5 := gg_2.cell 5
  have ggc6 := gg_2.cell 6
  have ggc7 := gg_2.cell 7
  have lgc_2p : w.heap.size < w2.heap.size + 1 := by have := gc_2.lt; omega
  have lgs_2p : w.heap.size + 1 < w2.heap.size + 1 := by have := gs_2.lt; omega
  have lgg_2p : w.heap.size + 1 + 1 < w2.heap.size + 1 := by have := gg_2.lt; omega
  have lga_2p : w.heap.size + 1 + 1 + 1 < w2.heap.size + 1 := by have := ga_2.lt; omega
  have lgz_2p : w.heap.size + 1 + 1 + 1 + 1 < w2.heap.size + 1 := by have := gz_2.lt; omega
  go_wp2_with fail
  with_reducible refine ((unhide K3) _ ((SG.below (HB2.alloc HB2.size _)).more (HB2.alloc HB2.size _).size)).mono ?_
  rintro e w3 ⟨rfl, hb3⟩
  have HB3 := (HB2.alloc HB2.size _).trans (hb3.mono (by simp; have := HB2.size; omega))
  have gc_3 := (gc_2.alloc _).below hb3 (gc_2.alloc _).lt
  have lgc_3 := gc_3.lt
  have gs_3 := (gs_2.alloc _).below hb3 (gs_2.alloc _).lt
  have lgs_3 := gs_3.lt
  have gg_3 := (gg_2.alloc _).below hb3 (gg_2.alloc _).lt
  have lgg_3 := gg_3.lt
  have ga_3 := (ga_2.alloc _).below hb3 (ga_2.alloc _).lt
  have lga_3 := ga_3.lt
  have gz_3 := (gz_2.alloc _).below hb3 (gz_2.alloc _).lt
  have lgz_3 := gz_3.lt
  have gv_3 := (Blk.new w2 122 #[.int .i64 A, .int .i64 B]).below hb3 (Blk.new w2 122 #[.int .i64 A, .int .i64 B]).lt
  have lgv_3 := gv_3.lt
  have L3 := (L2.new _).to hb3
  have gvc0 := gv_3.cell 0
  have gvc1 := gv_3.cell 1
  go_wp2_with fail
  with_reducible refine ((unhide K5) _).mono ?_
  rintro e w4 ⟨rfl, hb4⟩
  have HB4 := HB3.trans (hb4.mono HB3.size)
  have gc_4 := gc_3.below hb4 gc_3.lt
  have lgc_4 := gc_4.lt
  have gs_4 := gs_3.below hb4 gs_3.lt
  have lgs_4 := gs_4.lt
  have gg_4 := gg_3.below hb4 gg_3.lt
  have lgg_4 := gg_4.lt
  have ga_4 := ga_3.below hb4 ga_3.lt
  have lga_4 := ga_4.lt
  have gz_4 := gz_3.below hb4 gz_3.lt
  have lgz_4 := gz_4.lt
  have gv_4 := gv_3.below hb4 gv_3.lt
  have lgv_4 := gv_4.lt
  have L4 := L3.to hb4
  have gcc0 := gc_4.cell 0
  have gcc1 := gc_4.cell 1
  have gcc2 := gc_4.cell 2
  have gcc3 := gc_4.cell 3
  have gcc4 := gc_4.cell 4
  have gcc5 := gc_4.cell 5
  have gcc6 := gc_4.cell 6
  have gcc7 := gc_4.cell 7
  have gcc8 := gc_4.cell 8
  have gsc0 := gs_4.cell 0
  have gsc1 := gs_4.cell 1
  have gsc7 := gs_4.cell 7
  go_wp2_with fail
  with_reducible refine ((unhide K4) _ L4).mono ?_
  rintro e w5 ⟨rfl, hb5⟩
  have HB5 := HB4.trans (hb5.mono HB4.size)
  have gc_5 := gc_4.below hb5 gc_4.lt
  have lgc_5 := gc_5.lt
  have gs_5 := gs_4.below hb5 gs_4.lt
  have lgs_5 := gs_5.lt
  have gg_5 := gg_4.below hb5 gg_4.lt
  have lgg_5 := gg_5.lt
  have ga_5 := ga_4.below hb5 ga_4.lt
  have lga_5 := ga_5.lt
  have gz_5 := gz_4.below hb5 gz_4.lt
  have lgz_5 := gz_5.lt
  have gv_5 := gv_4.below hb5 gv_4.lt
  have lgv_5 := gv_5.lt
  have L5 := L4.to hb5
  have gzc0 := gz_5.cell 0
  have gzc1 := gz_5.cell 1
  have f0 := gz_5.frozen 0
  have f1 := gz_5.frozen 1
  go_wp2
  refine bodyPost_ret (ret_cell_tmp2 rfl rfl (load_ms (((gz_5.set_ 0 _).set_ 1 _).alloc _))) rfl ⟨rfl, ?_⟩
  exact ((HB5.setCell (by simp; omega) _).setCell (by simp; omega) _).alloc (by have := HB5.size; simp; omega) _
end Go.Proofs.YtpfkiohknpeifaaGreat
