/- The walks of the reference's Inverse, of reach, and of the reference's span. -/
import Derived.Test.YtmmplfokidnpnaaMInv
import Derived.Test.YtmmplfokidnpnaaMStart
import Derived.Deep.CutRange
namespace Go.Proofs.Ytmmplfokidnpnaa
open Go.RowKit
theorem wrapN {N : Nat} (h : N ≤ 2147483648) : wrap64 ((N : Int) + 1) = (N : Int) + 1 ∧ IntKind.i64.wrap ((N : Int) + 1) = (N : Int) + 1 :=
  ⟨by unfold wrap64; omega, IntWalk.i64_in _ (by omega)⟩
/-- The last x at which a curve is at most c. -/
def spHi (X Y : List Int) (c : Int) : Int := g X 0 + ff (gtB X Y c) ((g X (X.length - 1) - g X 0).toNat + 1) - 1
theorem gt_ge (X Y : List Int) (c : Int) : gtB X Y c = geB X Y (c + 1) := by
  funext k
  unfold gtB geB
  congr 1
theorem spHi_eq {X Y : List Int} (ok : CvOk X Y) (c : Int) : spHi X Y c = if c < g Y (X.length - 1) then invI X Y (c + 1) - 1 else g X (X.length - 1) := by
  have hm := (mono_le ok (i := 0) (j := X.length - 1) (by omega) (by have := ok.two; omega)).1
  unfold spHi invI
  obtain ⟨N, hN⟩ : ∃ N : Nat, (g X (X.length - 1) - g X 0).toNat = N := ⟨_, rfl⟩
  have hN' : g X 0 + (N : Int) = g X (X.length - 1) := by omega
  rw [hN]
  split
  · rename_i h
    rw [gt_ge]
    have hp : geB X Y (c + 1) N = true := by
      unfold geB
      rw [decide_eq_true_eq, hN', at_last ok (Int.le_refl _)]
      omega
    have hl := ff_le (geB X Y (c + 1)) N
    have : ff (geB X Y (c + 1)) (N + 1) = ff (geB X Y (c + 1)) N := by
      show (if ff (geB X Y (c + 1)) N < N then ff (geB X Y (c + 1)) N else if geB X Y (c + 1) N = true then N else N + 1) = _
      split
      · rfl
      · first | omega | (rw [if_pos hp]; omega)
    rw [this]
  · rename_i h
    have : ff (gtB X Y c) (N + 1) = N + 1 := by
      refine ff_none fun i _ => ?_
      unfold gtB
      rw [decide_eq_false_iff_not]
      have := (at_bd ok (g X 0 + i)).2
      omega
    rw [this]
    omega
theorem spHi_bd {X Y : List Int} (ok : CvOk X Y) (c : Int) : g X 0 - 1 ≤ spHi X Y c ∧ spHi X Y c ≤ g X (X.length - 1) := by
  have hm := (mono_le ok (i := 0) (j := X.length - 1) (by omega) (by have := ok.two; omega)).1
  have := ff_le (gtB X Y c) ((g X (X.length - 1) - g X 0).toNat + 1)
  unfold spHi
  omega
set_option maxRecDepth 100000 in
set_option maxHeartbeats 1600000 in
theorem invR (X Y : List Int) (ax ay : Addr) (n cX cY : Nat) (y : Int) (w : World) (SX : Sl w w.heap.size 1 (some ax) (rows X)) (SY : Sl w w.heap.size 1 (some ay) (rows Y)) (hn : n = X.length) (ok : CvOk X Y) :
    Calls Try.prog 82 #[.agg #[.slice (some ax) n cX, .slice (some ay) n cY], .int .i64 y] w fun e w' => e = .returned (.int .i64 (invI X Y y)) ∧ Below w.heap.size w w' := by
  have hb0 := (Below.refl w.heap.size w).alloc (Nat.le_refl _) (.cells #[.slice (some ax) n cX, .slice (some ay) n cY] 24)
  have g0 := Blk.new w 24 #[.slice (some ax) n cX, .slice (some ay) n cY]
  have n2 : 2 ≤ n := by have := ok.two; omega
  have n32 : n ≤ 32 := by have := ok.most; omega
  have b0 := ok.bd 0 (by omega)
  have bl := ok.bd (X.length - 1) (by omega)
  have hm := (mono_le ok (i := 0) (j := X.length - 1) (by omega) (by omega)).1
  obtain ⟨pf, pfa, pfb, f0⟩ := (SX.below hb0).at1' (k := 0) (by omega)
  obtain ⟨pl, pla, plb, z0⟩ := (SX.below hb0).at1' (k := n - 1) (by omega)
  obtain ⟨N, hN⟩ : ∃ N : Nat, (g X (X.length - 1) - g X 0).toNat = N := ⟨_, rfl⟩
  have hat := fun (v : Int) (hv : -4294967296 ≤ v ∧ v ≤ 4294967296) (W : World) (h1 : Sl W W.heap.size 1 (some ax) (rows X)) (h2 : Sl W W.heap.size 1 (some ay) (rows Y)) => atR X Y ax ay n cX cY v hv W h1 h2 hn ok
  have HM := hide (fun (i j : Nat) (h : i ≤ j) (hi : geB X Y y i = true) => geB_mono ok y h hi)
  have hv : invI X Y y = g X 0 + ff (geB X Y y) N := by unfold invI; rw [hN]
  rw [hv]
  rw [← hn] at hN bl hm
  have hpk : ∀ k : Nat, geB X Y y k = decide (y ≤ cvAt X Y (g X 0 + k)) := fun _ => rfl
  obtain ⟨x0, hx0⟩ : ∃ x, g X 0 = x := ⟨_, rfl⟩
  obtain ⟨xl, hxl⟩ : ∃ x, g X (n - 1) = x := ⟨_, rfl⟩
  rw [hx0] at f0 b0 hN hm ⊢
  simp only [hx0] at hpk
  have HP := hide hpk
  rw [hxl] at z0 bl hN hm
  have hi0 : 0 < n := by omega
  have hi1 : (0 : Int) < (n : Int) := by omega
  have hi5 : (0 : Int) ≤ 0 := by omega
  have il : ((n : Int) - 1).toNat = n - 1 := by omega
  have hi2 : (0 : Int) ≤ (n : Int) - 1 := by omega
  have hi3 : (n : Int) - 1 < (n : Int) := by omega
  have hi4 : IntKind.i64.wrap ((n : Int) - 1) = (n : Int) - 1 := IntWalk.i64_in _ (by omega)
  have hi6 : 1 ≤ n := by omega
  have hi7 : (1 : Int) ≤ (n : Int) := by omega
  have hxn : xl = x0 + (N : Int) := by omega
  have hNb : N ≤ 2147483648 := by omega
  have bx : -1073741824 ≤ x0 ∧ x0 ≤ 1073741824 := by omega
  have HAT := hide hat
  have HXN := Lib.hid hxn
  clear hat hx0 hxl hv hN b0 bl hm ok hn hxn hpk
  obtain ⟨y0, y1⟩ := g0.c2
  go_enter Try.func82, Try.ntmps82
  go_wp2
  go_quiet (fail)
  go_wp2
  go_loopw [5, 6] (fun i j wr => ∃ a b : Nat, a ≤ b ∧ b ≤ N ∧ i = .int .i64 (x0 + a) ∧ j = .int .i64 (x0 + b) ∧ Hid (∀ i, i < a → geB X Y y i = false) ∧ Hid (b < N → geB X Y y b = true) ∧ Blk wr w.heap.size 24 #[.slice (some ax) n cX, .slice (some ay) n cY] ∧ Below w.heap.size w wr) (fun i j _ => (intOf j - intOf i).toNat)
  case atStart => exact ⟨0, N, Nat.zero_le _, Nat.le_refl _, by rw [show x0 + ((0 : Nat) : Int) = x0 by omega], by rw [HXN.out], (fun i h => by omega), (fun h => by omega), g0.drewN nq, below_drewN hb0 nq⟩
  case round =>
  clear g0 hb0 y0 y1 f0 z0
  obtain ⟨a, b, hab, hbn, rfl, rfl, hlo, hhi, g1, hb⟩ := hrel
  obtain ⟨y0, y1⟩ := g1.c2
  have l1 := g1.lt
  have hs := hb.size
  by_cases hlt : a < b
  · obtain ⟨h, hh⟩ : ∃ h : Nat, (b - a) / 2 = h := ⟨_, rfl⟩
    have em : (x0 + (b : Int) - (x0 + (a : Int))).tdiv 2 = (h : Int) := by rw [Int.tdiv_eq_ediv_of_nonneg (by omega)]; omega
    have em2 : ((b : Int) - (a : Int)).tdiv 2 = (h : Int) := by rw [Int.tdiv_eq_ediv_of_nonneg (by omega)]; omega
    have ed : x0 + (b : Int) - (x0 + (a : Int)) = (b : Int) - a := by omega
    have hmb : a + h < b := by omega
    have hp0 := (unhide HP) (a + h)
    rw [show x0 + (((a + h : Nat)) : Int) = x0 + (a : Int) + (h : Int) by push_cast; omega] at hp0
    have HA1 := (unhide HAT) (x0 + (a : Int) + (h : Int)) (by omega)
    obtain ⟨V, hV⟩ : ∃ v, cvAt X Y (x0 + (a : Int) + (h : Int)) = v := ⟨_, rfl⟩
    simp only [hV] at HA1
    rw [hV] at hp0
    have HA2 := hide HA1
    have HP0 := Lib.hid hp0
    have HH := Lib.hid hh
    clear HA1 hp0 hV hh
    by_cases hv : y ≤ V
    · have hpt : Hid (geB X Y y (a + h) = true) := hide (by rw [HP0.out]; exact decide_eq_true hv)
      go_wp2_with fail
      with_reducible refine ((unhide HA2) _ ((SX.below hb).more hs) ((SY.below hb).more hs)).mono ?_
      rintro e wA ⟨rfl, hbA⟩
      go_wp2
      go_roundw
      case rel => exact ⟨a, a + h, by omega, by omega, rfl, congrArg (Value.int .i64) (by push_cast; omega), hlo, (fun _ => hpt), g1.below hbA g1.lt, hb.trans (hbA.mono hs)⟩
      case measure => simp [intOf]; omega
    · have hpf : Hid (geB X Y y (a + h) = false) := hide (by rw [HP0.out]; exact decide_eq_false hv)
      go_wp2_with fail
      with_reducible refine ((unhide HA2) _ ((SX.below hb).more hs) ((SY.below hb).more hs)).mono ?_
      rintro e wA ⟨rfl, hbA⟩
      go_wp2
      go_roundw
      case rel => exact ⟨a + h + 1, b, by omega, hbn, congrArg (Value.int .i64) (by push_cast; omega), rfl, (fun i hi => by
        cases hi2 : geB X Y y i with
        | false => rfl
        | true => rw [(unhide HM) i (a + h) (by omega) hi2] at hpf; exact absurd hpf.out (by decide)), hhi, g1.below hbA g1.lt, hb.trans (hbA.mono hs)⟩
      case measure => simp [intOf]; omega
  · obtain rfl : a = b := by omega
    have he := Lib.hid (ff_end hbn hlo.out hhi.out)
    go_wp2
    go_ret
    exact ⟨by rw [he.out]; rfl, hb⟩
section
variable {w0 w w' : World} {X Y : List Int} {ax ay : Addr} {n cX cY b1 b2 : Nat} {y : Int}
theorem QS.alloc (h : QS w0 w X Y ax ay n cX cY b1 b2 y) (o : Obj) : QS w0 (w.alloc o) X Y ax ay n cX cY b1 b2 y := ⟨h.p.alloc o, h.q.alloc o, h.sx.alloc h.b.size o, h.sy.alloc h.b.size o, h.b.alloc h.b.size o⟩
theorem QS.all4 {pf pl : Addr} {u v : Value} (h : QS w0 w X Y ax ay n cX cY b1 b2 y) (pfb : pf.block < w0.heap.size) (plb : pl.block < w0.heap.size) (f0 : w0.cell? pf = some u) (z0 : w0.cell? pl = some v) :
    QS w0 w X Y ax ay n cX cY b1 b2 y ∧ w.cell? ⟨b1, 0, none⟩ = some (.slice (some ax) n cX) ∧ w.cell? pf = some u ∧ w.cell? pl = some v := ⟨h, h.p.c2.1, (h.b.cell (p := pf) pfb).trans f0, (h.b.cell (p := pl) plb).trans z0⟩
end
set_option maxRecDepth 100000 in
set_option maxHeartbeats 1600000 in
theorem spanR (X Y : List Int) (ax ay : Addr) (n cX cY : Nat) (c : Int) (hcb : 0 ≤ c ∧ c ≤ 1048576) (w : World) (SX : Sl w w.heap.size 1 (some ax) (rows X)) (SY : Sl w w.heap.size 1 (some ay) (rows Y)) (hn : n = X.length) (ok : CvOk X Y) (hy0 : -c ≤ g Y (X.length - 1)) :
    Calls Try.prog 62 #[.agg #[.slice (some ax) n cX, .slice (some ay) n cY], .int .i64 c] w fun e w' => e = .returned (.tuple #[.int .i64 (invI X Y (-c)), .int .i64 (spHi X Y c)]) ∧ Below w.heap.size w w' := by
  have hb0 := (Below.refl w.heap.size w).alloc (Nat.le_refl _) (.cells #[.slice (some ax) n cX, .slice (some ay) n cY] 24)
  have g0 := Blk.new w 24 #[.slice (some ax) n cX, .slice (some ay) n cY]
  have n2 : 2 ≤ n := by have := ok.two; omega
  have n32 : n ≤ 32 := by have := ok.most; omega
  obtain ⟨pf, pfa, pfb, f0⟩ := SX.at1' (k := 0) (by omega)
  obtain ⟨pl, pla, plb, z0⟩ := SX.at1' (k := n - 1) (by omega)
  obtain ⟨pe, pea, peb, v0⟩ := SY.at1' (k := n - 1) (by have := ok.len; omega)
  have hin1 := fun (W : World) (h1 : Sl W W.heap.size 1 (some ax) (rows X)) (h2 : Sl W W.heap.size 1 (some ay) (rows Y)) => invR X Y ax ay n cX cY (-c) W h1 h2 hn ok
  have hi2' := fun (W : World) (h1 : Sl W W.heap.size 1 (some ax) (rows X)) (h2 : Sl W W.heap.size 1 (some ay) (rows Y)) => invR X Y ax ay n cX cY (c + 1) W h1 h2 hn ok
  have b1 := inv_bd ok (-c)
  have b2 := inv_bd ok (c + 1)
  have b3 := ok.bd 0 (by omega)
  have b4 := ok.bd (X.length - 1) (by omega)
  have hv := spHi_eq ok c
  rw [← hn] at hv hy0 b1 b2 b4
  obtain ⟨x0, hx0⟩ : ∃ x, g X 0 = x := ⟨_, rfl⟩
  obtain ⟨xl, hxl⟩ : ∃ x, g X (n - 1) = x := ⟨_, rfl⟩
  obtain ⟨yl, hyl⟩ : ∃ x, g Y (n - 1) = x := ⟨_, rfl⟩
  obtain ⟨I1, hI1⟩ : ∃ x, invI X Y (-c) = x := ⟨_, rfl⟩
  obtain ⟨I2, hI2⟩ : ∃ x, invI X Y (c + 1) = x := ⟨_, rfl⟩
  rw [hx0] at f0 b1 b2 b3
  rw [hxl] at z0 hv b1 b2 b4
  rw [hyl] at v0 hv hy0 b4
  rw [hI2] at hv b2
  simp only [hI1] at hin1 b1 ⊢
  simp only [hI2] at hi2'
  have hi0 : 0 < n := by omega
  have hi1 : (0 : Int) < (n : Int) := by omega
  have hi5 : (0 : Int) ≤ 0 := by omega
  have il : ((n : Int) - 1).toNat = n - 1 := by omega
  have hi2 : (0 : Int) ≤ (n : Int) - 1 := by omega
  have hi3 : (n : Int) - 1 < (n : Int) := by omega
  have hi4 : IntKind.i64.wrap ((n : Int) - 1) = (n : Int) - 1 := IntWalk.i64_in _ (by omega)
  have hi6 : 1 ≤ n := by omega
  have hi7 : (1 : Int) ≤ (n : Int) := by omega
  have e1 : IntKind.i64.wrap (-c) = -c := IntWalk.i64_in _ (by omega)
  have e2 : wrap64 (-c) = -c := by unfold wrap64; omega
  have H1 := hide hin1
  have H2 := hide hi2'
  have HV := Lib.hid hv
  clear hin1 hi2' hv hx0 hxl hyl hI1 hI2 ok hn
  have hb1 := hb0
  go_enter Try.func62, Try.ntmps62
  go_wp2
  obtain ⟨w0, hw0⟩ : ∃ W, w.alloc (.cells #[.slice (some ax) n cX, .slice (some ay) n cY] 24) = W := ⟨_, rfl⟩
  rw [hw0] at g0 hb0 hb1
  simp only [hw0]
  clear hw0
  obtain ⟨y0, y1⟩ := g0.c2
  have l0 := g0.lt
  have hs0 := hb0.size
  have f1 := (hb0.cell (p := pf) pfb).trans f0
  have z1 := (hb0.cell (p := pl) plb).trans z0
  have pfb0 : pf.block < w0.heap.size := by omega
  have plb0 : pl.block < w0.heap.size := by omega
  have v1 := (hb0.cell (p := pe) peb).trans v0
  have peb0 : pe.block < w0.heap.size := by omega
  go_quiet (fail)
  go_wp2_with fail
  have g1 := g0.drewN nq
  have hbw := below_drewN hb0 nq
  have hs1 := hbw.size
  with_reducible refine ((unhide H1) _ ((SX.below hbw).more hs1) ((SY.below hbw).more hs1)).mono ?_
  rintro e w2 ⟨rfl, hb2⟩
  have g2 := g1.below hb2 g1.lt
  have hbw2 := hbw.trans (hb2.mono hs1)
  have l2 := g2.lt
  have hs2 := hbw2.size
  have v2 := (hbw2.cell (p := pe) peb).trans v0
  have peb2 : pe.block < w2.heap.size := by omega
  clear y0 y1 v1
  obtain ⟨y0, y1⟩ := g2.c2
  by_cases hlt : c < yl
  · go_wp2_with fail
    with_reducible refine ((unhide H2) _ ((SX.below hbw2).more hs2) ((SY.below hbw2).more hs2)).mono ?_
    rintro e w3 ⟨rfl, hb3⟩
    go_wp2
    go_ret2
    exact ⟨by rw [HV.out, if_pos hlt]; rfl, hbw2.trans (hb3.mono hs2)⟩
  · go_wp2
    go_ret2
    exact ⟨by rw [HV.out, if_neg (by omega)]; rfl, hbw2⟩
set_option maxRecDepth 100000 in
set_option maxHeartbeats 1600000 in
theorem reachM (X Y : List Int) (ax ay : Addr) (n cX cY : Nat) (c : Int) (hcb : 0 ≤ c ∧ c ≤ 1048576) (w : World) (SX : Sl w w.heap.size 1 (some ax) (rows X)) (SY : Sl w w.heap.size 1 (some ay) (rows Y)) (hn : n = X.length) (ok : CvOk X Y) (hc : cvCode X Y = 0) (hy0 : -c ≤ g Y (X.length - 1)) :
    Calls Try.prog 58 #[.agg #[.slice (some ax) n cX, .slice (some ay) n cY], .int .i64 c] w fun e w' => e = .returned (.tuple #[.int .i64 (invI X Y (-c)), .int .i64 (spHi X Y c), .nilIface]) ∧ Below w.heap.size w w' := by
  have hb0 := ((Below.refl w.heap.size w).alloc (Nat.le_refl _) (.cells #[.slice (some ax) n cX, .slice (some ay) n cY] 24)).alloc (by simp) (.cells #[.int .i64 c] 3)
  have g0 := (Blk.new w 24 #[.slice (some ax) n cX, .slice (some ay) n cY]).alloc (.cells #[.int .i64 c] 3)
  have g1 := Blk.new' (w := w.alloc (.cells #[.slice (some ax) n cX, .slice (some ay) n cY] 24)) (t := 3) (cs := #[.int .i64 c]) (g := w.heap.size + 1) (by simp)
  have hq0 : QS w ((w.alloc (.cells #[.slice (some ax) n cX, .slice (some ay) n cY] 24)).alloc (.cells #[.int .i64 c] 3)) X Y ax ay n cX cY w.heap.size (w.heap.size + 1) c := ⟨g0, g1, SX.below hb0, SY.below hb0, hb0⟩
  have hmf : ∀ (fn : Fn) (first cap : Array Value) (w : World), (Instr.makeFunc fn first cap).run Try.prog w = .ok (.func fn first cap) w := fun _ _ _ _ => rfl
  have n2 : 2 ≤ n := by have := ok.two; omega
  have n32 : n ≤ 32 := by have := ok.most; omega
  have b0 := ok.bd 0 (by omega)
  have bl := ok.bd (X.length - 1) (by omega)
  have hm := (mono_le ok (i := 0) (j := X.length - 1) (by omega) (by omega)).1
  obtain ⟨pf, pfa, pfb, f0⟩ := SX.at1' (k := 0) (by omega)
  obtain ⟨pl, pla, plb, z0⟩ := SX.at1' (k := n - 1) (by omega)
  obtain ⟨N, hN⟩ : ∃ N : Nat, (g X (X.length - 1) - g X 0).toNat = N := ⟨_, rfl⟩
  have hse := fun (b3 : Nat) (W : World) (h : QS W W X Y ax ay n cX cY w.heap.size (w.heap.size + 1) c) (h3 : Blk W b3 3 #[.int .i64 (g X 0)]) => searchReach X Y ax ay n cX cY w.heap.size (w.heap.size + 1) c b3 (N + 1) W h h3 hc hn ok (by omega)
  have hin := fun (W : World) (h1 : Sl W W.heap.size 1 (some ax) (rows X)) (h2 : Sl W W.heap.size 1 (some ay) (rows Y)) => invM X Y ax ay n cX cY (-c) W h1 h2 hn ok hc hy0
  have hff := ff_le (gtB X Y c) (N + 1)
  have hv : spHi X Y c = g X 0 + ff (gtB X Y c) (N + 1) - 1 := by unfold spHi; rw [hN]
  rw [hv]
  obtain ⟨F, hF⟩ : ∃ F, ff (gtB X Y c) (N + 1) = F := ⟨_, rfl⟩
  simp only [hF] at hse hff ⊢
  obtain ⟨I1, hI1⟩ : ∃ x, invI X Y (-c) = x := ⟨_, rfl⟩
  simp only [hI1] at hin ⊢
  rw [← hn] at hN bl hm hy0
  obtain ⟨x0, hx0⟩ : ∃ x, g X 0 = x := ⟨_, rfl⟩
  obtain ⟨xl, hxl⟩ : ∃ x, g X (n - 1) = x := ⟨_, rfl⟩
  simp only [hx0] at hse
  rw [hx0] at f0 b0 hN hm ⊢
  rw [hxl] at z0 bl hN hm
  have hi0 : 0 < n := by omega
  have hi1 : (0 : Int) < (n : Int) := by omega
  have hi5 : (0 : Int) ≤ 0 := by omega
  have il : ((n : Int) - 1).toNat = n - 1 := by omega
  have hi2 : (0 : Int) ≤ (n : Int) - 1 := by omega
  have hi3 : (n : Int) - 1 < (n : Int) := by omega
  have hi4 : IntKind.i64.wrap ((n : Int) - 1) = (n : Int) - 1 := IntWalk.i64_in _ (by omega)
  have hi6 : 1 ≤ n := by omega
  have hi7 : (1 : Int) ≤ (n : Int) := by omega
  have hd : xl - x0 = (N : Int) := by omega
  have e1 : IntKind.i64.wrap (xl - x0) = (N : Int) := by rw [hd]; exact IntWalk.i64_in _ (by omega)
  have e2 : IntKind.i64.wrap (x0 + F) = x0 + F := IntWalk.i64_in _ (by omega)
  have e3 : IntKind.i64.wrap (x0 + F - 1) = x0 + F - 1 := IntWalk.i64_in _ (by omega)
  have e4 : IntKind.i64.wrap (N : Int) = (N : Int) := IntWalk.i64_in _ (by omega)
  have e5 : IntKind.i64.wrap (-c) = -c := IntWalk.i64_in _ (by omega)
  have e6 : wrap64 (-c) = -c := by unfold wrap64; omega
  have hNb : N ≤ 2147483648 := by omega
  have e8 := (wrapN hNb).1
  have e9 := (wrapN hNb).2
  have e7 : (((N + 1 : Nat)) : Int) = (N : Int) + 1 := by push_cast; rfl
  simp only [e7] at hse
  have HSE := hide hse
  have HIN := hide hin
  clear hse hin hF hI1 hx0 hxl hv hN bl hm ok hc hn e7
  have c0 := hq0.p.c2.1
  go_enter Try.func58, Try.ntmps58
  go_wp2_with fail
  with_reducible refine ((unhide HIN) _ hq0.x hq0.yy).mono ?_
  rintro e w1 ⟨rfl, hb1⟩
  have hq1 := QS.below hb1 hq0
  have hs1 := hq1.b.size
  clear c0
  have c0 := hq1.p.c2.1
  have c1 := hq1.p.c2.2
  have d0 := hq1.q.c1
  have l1 := hq1.p.lt
  have l2 := hq1.q.lt
  have f1 := (hq1.b.cell (p := pf) pfb).trans f0
  have z1 := (hq1.b.cell (p := pl) plb).trans z0
  have pfb1 : pf.block < w1.heap.size := by omega
  have plb1 : pl.block < w1.heap.size := by omega
  go_wp2_with fail
  go_cut [7, 8] from 20 to 31 (fun u7 u8 wx => u8 = .int .i64 xl ∧ ∃ b, u7 = .pointer (some ⟨b, 0, none⟩) ∧ QS w wx X Y ax ay n cX cY w.heap.size (w.heap.size + 1) c ∧ Blk wx b 3 #[.int .i64 x0])
  case first =>
    go_region_held3 (fun w' => QS w w' X Y ax ay n cX cY w.heap.size (w.heap.size + 1) c ∧ w'.cell? ⟨w.heap.size, 0, none⟩ = some (.slice (some ax) n cX) ∧ w'.cell? pf = some (.int .i64 x0) ∧ w'.cell? pl = some (.int .i64 xl))
      (first | (refine QS.all4 ?_ pfb plb f0 z0; repeat (first | with_reducible exact hq1 | with_reducible refine QS.drew ?_ | with_reducible refine QS.alloc ?_ _)))
      (fail)
    all_goals
      go_wp2_with fail
      go_meet
      case rel => exact ⟨rfl, _, rfl, (hq1.drew.alloc _), Blk.new _ _ _⟩
  case rest =>
    obtain ⟨rfl, b3, rfl, hq2, g3⟩ := hcut
    have d2 := hq2.q.c1
    have d3 := g3.c1
    have l3 := hq2.p.lt
    have l4 := hq2.q.lt
    have l5 := g3.lt
    go_wp2_with fail
    with_reducible refine ((unhide HSE) _ _ hq2.self g3).mono ?_
    rintro e w4 ⟨rfl, hb4⟩
    have hq4 := QS.below hb4 hq2
    have g4 := g3.below hb4 g3.lt
    have d4 := g4.c1
    have l6 := g4.lt
    clear d2 d3
    go_wp2
    go_quiet (fail)
    go_wp2
    exact bodyPost_ret (results_tmp3 rfl _ _ _) rfl ⟨rfl, below_drewN hq4.b _⟩
end Go.Proofs.Ytmmplfokidnpnaa
