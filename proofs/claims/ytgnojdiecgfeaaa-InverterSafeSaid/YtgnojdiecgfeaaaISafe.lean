/- The walk of the statement InverterSafe. -/
import Derived.Test.YtgnojdiecgfeaaaPlainK
import Derived.Test.YtgnojdiecgfeaaaAwakeI
import Derived.Test.YtgnojdiecgfeaaaAwakeG
import Derived.Test.YtgnojdiecgfeaaaRunBad
import Derived.Test.YtgnojdiecgfeaaaChecks
import Derived.Test.YtgnojdiecgfeaaaHigh
import Derived.Test.YtgnojdiecgfeaaaBreak
import Derived.Test.YtgnojdiecgfeaaaOpenH
namespace Go.Proofs.Ytgnojdiecgfeaaa
open Go.RowKit

theorem rcode_ok {x0 x1 x2 : Lg} {f0 o0 f1 o1 f2 o2 per dead trip : Int} (h : rcode x0 x1 x2 f0 o0 f1 o1 f2 o2 per dead trip = 0) :
    rngOk x0 x1 x2 per dead = true ∧ 0 ≤ trip ∧ trip ≤ per ∧ 0 ≤ f0 ∧ f0 ≤ o0 ∧ o0 ≤ per ∧ 0 ≤ f1 ∧ f1 ≤ o1 ∧ o1 ≤ per ∧ 0 ≤ f2 ∧ f2 ≤ o2 ∧ o2 ≤ per := by
  unfold rcode at h
  by_cases h1 : (rngOk x0 x1 x2 per dead && (decide (0 ≤ trip) && decide (trip ≤ per))) = true
  · rw [if_pos h1] at h
    by_cases h2 : (shpOk f0 o0 per && shpOk f1 o1 per && shpOk f2 o2 per) = true
    · simp only [shpOk, Bool.and_eq_true, decide_eq_true_eq] at h1 h2
      exact ⟨h1.1, h1.2.1, h1.2.2, h2.1.1.1.1, h2.1.1.1.2, h2.1.1.2, h2.1.2.1.1, h2.1.2.1.2, h2.1.2.2, h2.2.1.1, h2.2.1.2, h2.2.2⟩
    · rw [if_neg h2] at h; cases h
  · rw [if_neg h1] at h; cases h
theorem rng_per {x0 x1 x2 : Lg} {per dead : Int} (h : rngOk x0 x1 x2 per dead = true) : 64 ≤ per ∧ per ≤ 4096 := by
  simp only [rngOk, perOk, Bool.and_eq_true, decide_eq_true_eq] at h
  exact h.1.2
def offs : List Bool := [false, false, false, false, false, false]
theorem agree_offs (ks on : List Bool) : agree ks on offs := by
  intro j h
  match j with
  | 0 => cases h
  | 1 => cases h
  | 2 => cases h
  | 3 => cases h
  | 4 => cases h
  | 5 => cases h
  | j + 6 => cases h
theorem tms_bdP (per : Int) (on : List Bool) (es : List Ed) (l j : Nat) (h : 0 ≤ per) : 0 ≤ tms per on es l j ∧ tms per on es l j ≤ per := by
  unfold tms
  split
  · have := tmR_bd on es l j per.toNat
    omega
  · omega
/-- The three variables of the statement in memory, and what was there before. -/
structure AT (w0 w : World) (ps qs rs : Array Value) : Prop where
  p : Blk w w0.heap.size 92 ps
  q : Blk w (w0.heap.size + 1) 26 qs
  r : Blk w (w0.heap.size + 1 + 1) 22 rs
  b : Below w0.heap.size w0 w
theorem AT.all {w0 w : World} {v0 v1 v2 v3 v4 v5 v6 v7 v8 : Value} {qs rs : Array Value} (h : AT w0 w #[v0, v1, v2, v3, v4, v5, v6, v7, v8] qs rs) : AT w0 w #[v0, v1, v2, v3, v4, v5, v6, v7, v8] qs rs ∧ w.cell? ⟨w0.heap.size, 0, none⟩ = some v0 ∧ w.cell? ⟨w0.heap.size, 1, none⟩ = some v1 ∧ w.cell? ⟨w0.heap.size, 2, none⟩ = some v2 ∧ w.cell? ⟨w0.heap.size, 3, none⟩ = some v3 ∧ w.cell? ⟨w0.heap.size, 4, none⟩ = some v4 ∧ w.cell? ⟨w0.heap.size, 5, none⟩ = some v5 ∧ w.cell? ⟨w0.heap.size, 6, none⟩ = some v6 ∧ w.cell? ⟨w0.heap.size, 7, none⟩ = some v7 ∧ w.cell? ⟨w0.heap.size, 8, none⟩ = some v8 := ⟨h, h.p.c9⟩
theorem AT.drew {w0 w : World} {ps qs rs : Array Value} (h : AT w0 w ps qs rs) : AT w0 w.drew ps qs rs := ⟨h.p.drew, h.q.drew, h.r.drew, h.b.drew⟩
theorem AT.one {Q : Prop} {w0 w : World} {ps qs rs : Array Value} (h : AT w0 w ps qs rs ∧ Q) : AT w0 w ps qs rs := h.1
theorem AT.below {w0 w w' : World} {ps qs rs : Array Value} (hb : Below w.heap.size w w') (h : AT w0 w ps qs rs) : AT w0 w' ps qs rs := ⟨h.p.below hb h.p.lt, h.q.below hb h.q.lt, h.r.below hb h.r.lt, h.b.trans (hb.mono h.b.size)⟩
theorem AT.alloc {w0 w : World} {ps qs rs : Array Value} (h : AT w0 w ps qs rs) (o : Obj) : AT w0 (w.alloc o) ps qs rs := ⟨h.p.alloc o, h.q.alloc o, h.r.alloc o, h.b.alloc h.b.size o⟩
theorem AT.set {w0 w : World} {ps qs rs : Array Value} (h : AT w0 w ps qs rs) {p : Addr} (hp : w0.heap.size + 1 + 1 < p.block) (u : Value) : AT w0 (w.setCell p u) ps qs rs := ⟨h.p.far (by omega) u, h.q.far (by omega) u, h.r.far (by omega) u, h.b.setCell (by omega) u⟩

set_option maxRecDepth 100000 in
set_option maxHeartbeats 6400000 in
theorem inverterSafe_walk (f o : Nat → Int) (per dead trip i0 i1 i2 : Int) (k0 k1 k2 k3 k4 k5 : Bool) (w : World) :
    Calls Try.prog 18 #[.agg (cellsD f o per dead trip), .agg #[.int .i64 i0, .int .i64 i1, .int .i64 i2], .agg #[.bool k0, .bool k1, .bool k2, .bool k3, .bool k4, .bool k5]] w fun e w' => e = .returned (.bool true) ∧ Below w.heap.size w w' := by
  unfold cellsD
  have has0 : AT w (((w.alloc (.cells #[.int .i64 (f 0), .int .i64 (o 0), .int .i64 (f 1), .int .i64 (o 1), .int .i64 (f 2), .int .i64 (o 2), .int .i64 per, .int .i64 dead, .int .i64 trip] 92)).alloc (.cells #[.int .i64 i0, .int .i64 i1, .int .i64 i2] 26)).alloc (.cells #[.bool k0, .bool k1, .bool k2, .bool k3, .bool k4, .bool k5] 22)) #[.int .i64 (f 0), .int .i64 (o 0), .int .i64 (f 1), .int .i64 (o 1), .int .i64 (f 2), .int .i64 (o 2), .int .i64 per, .int .i64 dead, .int .i64 trip] #[.int .i64 i0, .int .i64 i1, .int .i64 i2] #[.bool k0, .bool k1, .bool k2, .bool k3, .bool k4, .bool k5] :=
    ⟨((Blk.new _ _ _).alloc _).alloc _, (Blk.new' (by simp)).alloc _, Blk.new' (by simp), (((Below.refl w.heap.size w).alloc (Nat.le_refl _) _).alloc (by simp) _).alloc (by simp <;> omega) _⟩
  by_cases hc : rcode (fresh 0) (fresh 1) (fresh 2) (f 0) (o 0) (f 1) (o 1) (f 2) (o 2) per dead trip = 0
  case neg =>
    have hru := fun W => run_bad fresh f o per dead trip W hc
    rw [errV_ne hc] at hru
    obtain ⟨cd, hcd⟩ : ∃ cd, rcode (fresh 0) (fresh 1) (fresh 2) (f 0) (o 0) (f 1) (o 1) (f 2) (o 2) per dead trip = cd := ⟨_, rfl⟩
    rw [hcd] at hru
    have hru' : ∀ W, Calls Try.prog 32 #[.agg #[.int .i64 0, .int .i64 4096, .int .i64 0, .int .i64 4096, .int .i64 0, .int .i64 4096], .agg #[.int .i64 (f 0), .int .i64 (o 0), .int .i64 (f 1), .int .i64 (o 1), .int .i64 (f 2), .int .i64 (o 2)], .int .i64 per, .int .i64 dead, .int .i64 trip] W _ := hru
    have HRU := hide hru'
    clear hru hru' hcd hc
    go_enter Try.func18, Try.ntmps18
    go_wp2_with fail
    refine (awake_walk _).mono ?_
    rintro e W ⟨rfl, hb1⟩
    have has := AT.below hb1 has0
    clear has0 hb1
    have hlW := has.r.lt
    have hlW1 : w.heap.size + 1 + 1 < W.heap.size + 1 := by omega
    have hlW2 : w.heap.size + 1 + 1 < W.heap.size + 1 + 1 := by omega
    have hds : ∀ w : World, w.drew.heap.size = w.heap.size := fun _ => rfl
    go_wp2_with fail
    go_cut [9] from 22 to 36 (fun u9 wx => u9 = .iface 95 (.int .i64 cd) ∧ Below w.heap.size w wx)
    case first =>
      go_region_held3 (fun w' => AT w w' #[.int .i64 (f 0), .int .i64 (o 0), .int .i64 (f 1), .int .i64 (o 1), .int .i64 (f 2), .int .i64 (o 2), .int .i64 per, .int .i64 dead, .int .i64 trip] #[.int .i64 i0, .int .i64 i1, .int .i64 i2] #[.bool k0, .bool k1, .bool k2, .bool k3, .bool k4, .bool k5] ∧ w'.cell? ⟨w.heap.size, 0, none⟩ = some (.int .i64 (f 0)) ∧ w'.cell? ⟨w.heap.size, 1, none⟩ = some (.int .i64 (o 0)) ∧ w'.cell? ⟨w.heap.size, 2, none⟩ = some (.int .i64 (f 1)) ∧ w'.cell? ⟨w.heap.size, 3, none⟩ = some (.int .i64 (o 1)) ∧ w'.cell? ⟨w.heap.size, 4, none⟩ = some (.int .i64 (f 2)) ∧ w'.cell? ⟨w.heap.size, 5, none⟩ = some (.int .i64 (o 2)) ∧ w'.cell? ⟨w.heap.size, 6, none⟩ = some (.int .i64 per) ∧ w'.cell? ⟨w.heap.size, 7, none⟩ = some (.int .i64 dead) ∧ w'.cell? ⟨w.heap.size, 8, none⟩ = some (.int .i64 trip))
        (first | (refine AT.all ?_; repeat (first | with_reducible exact has | with_reducible exact hasF | with_reducible exact hasR | with_reducible refine AT.drew ?_ | with_reducible refine AT.alloc ?_ _ | (with_reducible refine AT.set ?_ ?_ _; rotate_left; · (show w.heap.size + 1 + 1 < _; first | omega | (dsimp only; omega))))))
        (first | (go_at_call 38; refine (fresh_lit _).mono ?_; rintro e wF ⟨rfl, hbq⟩; have hasF := AT.below hbq (AT.one ‹AT w _ _ _ _ ∧ _›); have q0 := hasF.r.lt; have hk1 := fun (b o : Nat) (h : b < _) => hbq.cell (p := ⟨b, o, none⟩) h; have hk2 := fun (b o : Nat) (h : b < _) => hbq.frozen (p := ⟨b, o, none⟩) h; have hk3 := fun (b : Nat) (h : b < _) => Nat.lt_of_lt_of_le h hbq.size; (try (refine use_fact (hk3 (W.heap.size)) ?_ (fun q1 => ?_); · (first | omega | (simp only [hds, World.size_alloc]; omega)))); (try (refine use_fact (hk3 (W.heap.size + 1)) ?_ (fun q2 => ?_); · (first | omega | (simp only [hds, World.size_alloc]; omega))))) | (go_at_call 32; refine ((unhide HRU) _).mono ?_; rintro e wR ⟨rfl, hbq2⟩; have hasR := AT.below hbq2 (AT.one ‹AT w _ _ _ _ ∧ _›); have q0R := hasR.r.lt; have hk4 := fun (b o : Nat) (h : b < _) => hbq2.cell (p := ⟨b, o, none⟩) h; have hk5 := fun (b o : Nat) (h : b < _) => hbq2.frozen (p := ⟨b, o, none⟩) h; have hk6 := fun (b : Nat) (h : b < _) => Nat.lt_of_lt_of_le h hbq2.size; (try (refine use_fact (hk6 (W.heap.size)) ?_ (fun q3 => ?_); · (first | omega | (simp only [World.size_alloc]; omega)))); (try (refine use_fact (hk6 (W.heap.size + 1)) ?_ (fun q4 => ?_); · (first | omega | (simp only [World.size_alloc]; omega)))); (try (refine use_fact (hk6 (wF.heap.size)) ?_ (fun q5 => ?_); · (first | omega | (simp only [World.size_alloc]; omega)))); (try (refine use_fact (hk6 (wF.heap.size + 1)) ?_ (fun q6 => ?_); · (first | omega | (simp only [World.size_alloc]; omega))))))
      all_goals
        go_wp2_with fail
        go_meet
        case rel =>
          refine ⟨rfl, ?_⟩
          refine AT.b (ps := #[.int .i64 (f 0), .int .i64 (o 0), .int .i64 (f 1), .int .i64 (o 1), .int .i64 (f 2), .int .i64 (o 2), .int .i64 per, .int .i64 dead, .int .i64 trip]) (qs := #[.int .i64 i0, .int .i64 i1, .int .i64 i2]) (rs := #[.bool k0, .bool k1, .bool k2, .bool k3, .bool k4, .bool k5]) ?_
          repeat (first | with_reducible exact hasR | with_reducible exact hasF | with_reducible refine AT.drew ?_ | with_reducible refine AT.alloc ?_ _ | (with_reducible refine AT.set ?_ ?_ _; rotate_left; · (show w.heap.size + 1 + 1 < _; first | omega | (dsimp only; omega))))
    case rest =>
      obtain ⟨rfl, hbw⟩ := hcut
      go_wp2
      go_ret
      exact ⟨rfl, hbw⟩
  case pos =>
    obtain ⟨h1, h2, h3, h4, h5, h6, h7, h8, h9, h10, h11, h12⟩ := rcode_ok hc
    obtain ⟨hp1, hp2⟩ := rng_per h1
    have hlok : ∀ l, l < 3 → Lok (fresh l) := fun l _ => ⟨.inl rfl, by show (0 : Int) ≤ 4096; decide, by show (4096 : Int) ≤ 4096; decide⟩
    have hru := fun W => run_walk fresh f o per dead trip W h1 h2 h3 h4 h5 h6 h7 h8 h9 h10 h11 h12 ⟨per, dead, trip, f, o, fresh⟩ rfl
    have her := es_err (r := ⟨per, dead, trip, f, o, fresh⟩) hlok hp1 hp2
    have hlen := Rq.es_len ⟨per, dead, trip, f, o, fresh⟩ per.toNat
    obtain ⟨es, hes⟩ : ∃ es, Rq.es ⟨per, dead, trip, f, o, fresh⟩ per.toNat = es := ⟨_, rfl⟩
    obtain ⟨y, hy⟩ : ∃ y, (fun l => Rq.at_ ⟨per, dead, trip, f, o, fresh⟩ l per.toNat) = y := ⟨_, rfl⟩
    simp only [hes, hy] at hru
    have her' : err per offs es = 0 := by rw [← hes]; exact her
    rw [hes] at hlen
    clear her hes hy hc h1 h2 h3 h4 h5 h6 h7 h8 h9 h10 h11 h12 hlok
    have hru' : ∀ W, Calls Try.prog 32 #[.agg #[.int .i64 0, .int .i64 4096, .int .i64 0, .int .i64 4096, .int .i64 0, .int .i64 4096], .agg #[.int .i64 (f 0), .int .i64 (o 0), .int .i64 (f 1), .int .i64 (o 1), .int .i64 (f 2), .int .i64 (o 2)], .int .i64 per, .int .i64 dead, .int .i64 trip] W fun e w' => ∃ (A : Option Addr) (c : Nat), e = .returned (.tuple #[.agg #[.int .i64 per, .bool false, .bool false, .bool false, .bool false, .bool false, .bool false, .slice A es.length c], .agg #[.int .i64 ((y 0).s), .int .i64 ((y 0).j), .int .i64 ((y 1).s), .int .i64 ((y 1).j), .int .i64 ((y 2).s), .int .i64 ((y 2).j)], .nilIface]) ∧ Sl w' w'.heap.size 3 A (es.map Ed.row) ∧ (∀ ad, A = some ad → W.heap.size ≤ ad.block) ∧ Below W.heap.size W w' := fun W => (hru W).mono fun e w' ⟨A, n, c, he, hn, hsl, hage, hb⟩ => ⟨A, c, by rw [he, hn]; rfl, hsl, hage, hb⟩
    have hl2 : es.length ≤ 12288 := by omega
    have HRU := hide hru'
    have HER := Lib.hid her'
    clear hru hru' her' hlen
    go_enter Try.func18, Try.ntmps18
    go_wp2_with fail
    refine (awake_walk _).mono ?_
    rintro e W ⟨rfl, hb1⟩
    have has := AT.below hb1 has0
    clear has0 hb1
    have hlW := has.r.lt
    have hlW1 : w.heap.size + 1 + 1 < W.heap.size + 1 := by omega
    have hlW2 : w.heap.size + 1 + 1 < W.heap.size + 1 + 1 := by omega
    have hds : ∀ w : World, w.drew.heap.size = w.heap.size := fun _ => rfl
    go_wp2_with fail
    go_cut [7, 9] from 22 to 36 (fun u7 u9 wx => u9 = .nilIface ∧ ∃ (a7 : Nat) (A : Option Addr) (c : Nat), u7 = .pointer (some ⟨a7, 0, none⟩) ∧ wx.cell? ⟨a7, 0, none⟩ = some (.int .i64 per) ∧ wx.cell? ⟨a7, 1, none⟩ = some (.bool false) ∧ wx.cell? ⟨a7, 2, none⟩ = some (.bool false) ∧ wx.cell? ⟨a7, 3, none⟩ = some (.bool false) ∧ wx.cell? ⟨a7, 4, none⟩ = some (.bool false) ∧ wx.cell? ⟨a7, 5, none⟩ = some (.bool false) ∧ wx.cell? ⟨a7, 6, none⟩ = some (.bool false) ∧ wx.cell? ⟨a7, 7, none⟩ = some (.slice A es.length c) ∧ Sl wx wx.heap.size 3 A (es.map Ed.row) ∧ AT w wx #[.int .i64 (f 0), .int .i64 (o 0), .int .i64 (f 1), .int .i64 (o 1), .int .i64 (f 2), .int .i64 (o 2), .int .i64 per, .int .i64 dead, .int .i64 trip] #[.int .i64 i0, .int .i64 i1, .int .i64 i2] #[.bool k0, .bool k1, .bool k2, .bool k3, .bool k4, .bool k5])
    case first =>
      go_region_held3 (fun w' => AT w w' #[.int .i64 (f 0), .int .i64 (o 0), .int .i64 (f 1), .int .i64 (o 1), .int .i64 (f 2), .int .i64 (o 2), .int .i64 per, .int .i64 dead, .int .i64 trip] #[.int .i64 i0, .int .i64 i1, .int .i64 i2] #[.bool k0, .bool k1, .bool k2, .bool k3, .bool k4, .bool k5] ∧ w'.cell? ⟨w.heap.size, 0, none⟩ = some (.int .i64 (f 0)) ∧ w'.cell? ⟨w.heap.size, 1, none⟩ = some (.int .i64 (o 0)) ∧ w'.cell? ⟨w.heap.size, 2, none⟩ = some (.int .i64 (f 1)) ∧ w'.cell? ⟨w.heap.size, 3, none⟩ = some (.int .i64 (o 1)) ∧ w'.cell? ⟨w.heap.size, 4, none⟩ = some (.int .i64 (f 2)) ∧ w'.cell? ⟨w.heap.size, 5, none⟩ = some (.int .i64 (o 2)) ∧ w'.cell? ⟨w.heap.size, 6, none⟩ = some (.int .i64 per) ∧ w'.cell? ⟨w.heap.size, 7, none⟩ = some (.int .i64 dead) ∧ w'.cell? ⟨w.heap.size, 8, none⟩ = some (.int .i64 trip))
        (first | (refine AT.all ?_; repeat (first | with_reducible exact has | with_reducible exact hasF | with_reducible exact hasR | with_reducible refine AT.drew ?_ | with_reducible refine AT.alloc ?_ _ | (with_reducible refine AT.set ?_ ?_ _; rotate_left; · (show w.heap.size + 1 + 1 < _; first | omega | (dsimp only; omega))))))
        (first | (go_at_call 38; refine (fresh_lit _).mono ?_; rintro e wF ⟨rfl, hbq⟩; have hasF := AT.below hbq (AT.one ‹AT w _ _ _ _ ∧ _›); have q0 := hasF.r.lt; have hk1 := fun (b o : Nat) (h : b < _) => hbq.cell (p := ⟨b, o, none⟩) h; have hk2 := fun (b o : Nat) (h : b < _) => hbq.frozen (p := ⟨b, o, none⟩) h; have hk3 := fun (b : Nat) (h : b < _) => Nat.lt_of_lt_of_le h hbq.size; (try (refine use_fact (hk3 (W.heap.size)) ?_ (fun q1 => ?_); · (first | omega | (simp only [hds, World.size_alloc]; omega)))); (try (refine use_fact (hk3 (W.heap.size + 1)) ?_ (fun q2 => ?_); · (first | omega | (simp only [hds, World.size_alloc]; omega))))) | (go_at_call 32; refine ((unhide HRU) _).mono ?_; rintro e wR ⟨A, c, rfl, hsl, hage, hbq2⟩; have hasR := AT.below hbq2 (AT.one ‹AT w _ _ _ _ ∧ _›); have q0R := hasR.r.lt; have hk4 := fun (b o : Nat) (h : b < _) => hbq2.cell (p := ⟨b, o, none⟩) h; have hk5 := fun (b o : Nat) (h : b < _) => hbq2.frozen (p := ⟨b, o, none⟩) h; have hk6 := fun (b : Nat) (h : b < _) => Nat.lt_of_lt_of_le h hbq2.size; (try (refine use_fact (hk6 (W.heap.size)) ?_ (fun q3 => ?_); · (first | omega | (simp only [World.size_alloc]; omega)))); (try (refine use_fact (hk6 (W.heap.size + 1)) ?_ (fun q4 => ?_); · (first | omega | (simp only [World.size_alloc]; omega)))); (try (refine use_fact (hk6 (wF.heap.size)) ?_ (fun q5 => ?_); · (first | omega | (simp only [World.size_alloc]; omega)))); (try (refine use_fact (hk6 (wF.heap.size + 1)) ?_ (fun q6 => ?_); · (first | omega | (simp only [World.size_alloc]; omega))))))
      all_goals
        go_wp2_with fail
        go_meet
        case rel =>
          refine ⟨rfl, _, A, c, rfl, ?_, ?_, ?_, ?_, ?_, ?_, ?_, ?_, Sl.kp hsl hage ?_, ?_⟩
          · first | (go_simp; done) | (go_simp; refine World.cell?_setCell_same' _ _ _ ?_; go_simp)
          · first | (go_simp; done) | (go_simp; refine World.cell?_setCell_same' _ _ _ ?_; go_simp)
          · first | (go_simp; done) | (go_simp; refine World.cell?_setCell_same' _ _ _ ?_; go_simp)
          · first | (go_simp; done) | (go_simp; refine World.cell?_setCell_same' _ _ _ ?_; go_simp)
          · first | (go_simp; done) | (go_simp; refine World.cell?_setCell_same' _ _ _ ?_; go_simp)
          · first | (go_simp; done) | (go_simp; refine World.cell?_setCell_same' _ _ _ ?_; go_simp)
          · first | (go_simp; done) | (go_simp; refine World.cell?_setCell_same' _ _ _ ?_; go_simp)
          · first | (go_simp; done) | (go_simp; refine World.cell?_setCell_same' _ _ _ ?_; go_simp)
          · repeat (first | with_reducible exact Kp.refl _ _ | with_reducible refine Kp.drew ?_ | with_reducible refine Kp.alloc ?_ _ | (with_reducible refine Kp.set ?_ ?_ _; rotate_left; · (first | omega | (simp only [World.size_alloc]; omega))))
          · repeat (first | with_reducible exact hasR | with_reducible exact hasF | with_reducible refine AT.drew ?_ | with_reducible refine AT.alloc ?_ _ | (with_reducible refine AT.set ?_ ?_ _; rotate_left; · (show w.heap.size + 1 + 1 < _; first | omega | (dsimp only; omega))))
    case rest =>
      obtain ⟨rfl, a7, A, c, rfl, e0, e1, e2, e3, e4, e5, e6, e7, hsl, hv⟩ := hcut
      have hlt7 : a7 < wc.heap.size := World.block_lt_of_cell? wc _ e0
      clear HRU has
      by_cases hbig : 500 < es.length
      · go_wp2
        go_ret
        exact ⟨rfl, hv.b⟩
      have her := HER.out
      obtain ⟨hck, hsh⟩ := err_ok her
      have hck2 : chk per (brk [k0, k1, k2, k3, k4, k5] es) = 0 := brk_chk _ hck
      have hsh2 : shortR per offs (brk [k0, k1, k2, k3, k4, k5] es) = false := by
        cases hq : shortR per offs (brk [k0, k1, k2, k3, k4, k5] es) with
        | false => rfl
        | true => rw [brk_short (chk_zero hck).2.2 rfl (agree_offs _ _) hq] at hsh; cases hsh
      have hs1 := fun (W : World) (hE : Sl W W.heap.size 3 A (es.map Ed.row)) => short_walk per false false false false false false A es.length c es W hE rfl (by omega)
      have hbk := fun (W : World) (hE : Sl W W.heap.size 3 A (es.map Ed.row)) => break_walk per false false false false false false k0 k1 k2 k3 k4 k5 A es.length c es W hE rfl (by omega)
      have hs2 := fun (A' : Option Addr) (n' c' : Nat) (W : World) (hE : Sl W W.heap.size 3 A' ((brk [k0, k1, k2, k3, k4, k5] es).map Ed.row)) (hn : n' = (brk [k0, k1, k2, k3, k4, k5] es).length) (hm : n' ≤ 1000000) => short_walk per false false false false false false A' n' c' (brk [k0, k1, k2, k3, k4, k5] es) W hE hn hm
      have hhi := fun (W : World) (hE : Sl W W.heap.size 3 A (es.map Ed.row)) => high_walk per false false false false false false A es.length c es i0 i1 i2 W hE rfl (by omega)
      have hti := fun (W : World) (hE : Sl W W.heap.size 3 A (es.map Ed.row)) => times_walk per false false false false false false A es.length c es W hE rfl (by omega)
      rw [show [false, false, false, false, false, false] = offs from rfl] at hs1 hs2 hhi hti
      have hn0 := high_none (leg := 0) (cur := i0) her
      have hn1 := high_none (leg := 1) (cur := i1) her
      have hn2 := high_none (leg := 2) (cur := i2) her
      have hbl : (brk [k0, k1, k2, k3, k4, k5] es).length ≤ 500 := by
        have := brk_length [k0, k1, k2, k3, k4, k5] es
        omega
      rw [hn0, hn1, hn2, her, errV_zero] at hhi
      simp only [hck, errV_zero] at hti
      simp only [shrt_ok hck, hsh, hck, errV_zero] at hs1
      simp only [shrt_ok hck2, hsh2, hck2, errV_zero] at hs2
      have hpp : 0 ≤ per ∧ per ≤ 4096 := by have := chk_zero hck; omega
      have bd00 := tms_bdP per offs es 0 0 hpp.1
      obtain ⟨q00, eq00⟩ : ∃ q, tms per offs es 0 0 = q := ⟨_, rfl⟩
      rw [eq00] at bd00
      obtain ⟨bl00, bu00⟩ := bd00
      have bd01 := tms_bdP per offs es 0 1 hpp.1
      obtain ⟨q01, eq01⟩ : ∃ q, tms per offs es 0 1 = q := ⟨_, rfl⟩
      rw [eq01] at bd01
      obtain ⟨bl01, bu01⟩ := bd01
      have bd02 := tms_bdP per offs es 0 2 hpp.1
      obtain ⟨q02, eq02⟩ : ∃ q, tms per offs es 0 2 = q := ⟨_, rfl⟩
      rw [eq02] at bd02
      obtain ⟨bl02, bu02⟩ := bd02
      have bd10 := tms_bdP per offs es 1 0 hpp.1
      obtain ⟨q10, eq10⟩ : ∃ q, tms per offs es 1 0 = q := ⟨_, rfl⟩
      rw [eq10] at bd10
      obtain ⟨bl10, bu10⟩ := bd10
      have bd11 := tms_bdP per offs es 1 1 hpp.1
      obtain ⟨q11, eq11⟩ : ∃ q, tms per offs es 1 1 = q := ⟨_, rfl⟩
      rw [eq11] at bd11
      obtain ⟨bl11, bu11⟩ := bd11
      have bd12 := tms_bdP per offs es 1 2 hpp.1
      obtain ⟨q12, eq12⟩ : ∃ q, tms per offs es 1 2 = q := ⟨_, rfl⟩
      rw [eq12] at bd12
      obtain ⟨bl12, bu12⟩ := bd12
      have bd20 := tms_bdP per offs es 2 0 hpp.1
      obtain ⟨q20, eq20⟩ : ∃ q, tms per offs es 2 0 = q := ⟨_, rfl⟩
      rw [eq20] at bd20
      obtain ⟨bl20, bu20⟩ := bd20
      have bd21 := tms_bdP per offs es 2 1 hpp.1
      obtain ⟨q21, eq21⟩ : ∃ q, tms per offs es 2 1 = q := ⟨_, rfl⟩
      rw [eq21] at bd21
      obtain ⟨bl21, bu21⟩ := bd21
      have bd22 := tms_bdP per offs es 2 2 hpp.1
      obtain ⟨q22, eq22⟩ : ∃ q, tms per offs es 2 2 = q := ⟨_, rfl⟩
      rw [eq22] at bd22
      obtain ⟨bl22, bu22⟩ := bd22
      simp only [eq00, eq01, eq02, eq10, eq11, eq12, eq20, eq21, eq22] at hhi hti
      obtain ⟨h0, hh0⟩ : ∃ h, q00 + (if i0 < 0 then q02 else 0) = h := ⟨_, rfl⟩
      have hd0 : (0 ≤ i0 ∧ h0 = q00) ∨ (¬ 0 ≤ i0 ∧ q02 = 0 ∧ h0 = q00) ∨ (¬ 0 ≤ i0 ∧ q02 ≠ 0 ∧ h0 = q00 + q02) := by split at hh0 <;> omega
      obtain ⟨h1, hh1⟩ : ∃ h, q10 + (if i1 < 0 then q12 else 0) = h := ⟨_, rfl⟩
      have hd1 : (0 ≤ i1 ∧ h1 = q10) ∨ (¬ 0 ≤ i1 ∧ q12 = 0 ∧ h1 = q10) ∨ (¬ 0 ≤ i1 ∧ q12 ≠ 0 ∧ h1 = q10 + q12) := by split at hh1 <;> omega
      obtain ⟨h2, hh2⟩ : ∃ h, q20 + (if i2 < 0 then q22 else 0) = h := ⟨_, rfl⟩
      have hd2 : (0 ≤ i2 ∧ h2 = q20) ∨ (¬ 0 ≤ i2 ∧ q22 = 0 ∧ h2 = q20) ∨ (¬ 0 ≤ i2 ∧ q22 ≠ 0 ∧ h2 = q20 + q22) := by split at hh2 <;> omega
      rw [hh0, hh1, hh2] at hhi
      obtain ⟨bs, hbs⟩ : ∃ bs, brk [k0, k1, k2, k3, k4, k5] es = bs := ⟨_, rfl⟩
      simp only [hbs] at hbk hs2 hbl
      obtain ⟨hp0, hp4⟩ := hpp
      have HD0 := Lib.hid hd0
      have HD1 := Lib.hid hd1
      have HD2 := Lib.hid hd2
      have HS1 := hide hs1
      have HS2 := hide hs2
      have HBK := hide hbk
      have HHI := hide hhi
      have HTI := hide hti
      clear hs1 hs2 hbk hhi hti hd0 hd1 hd2 hh0 hh1 hh2 eq00 eq01 eq02 eq10 eq11 eq12 eq20 eq21 eq22 hbs hn0 hn1 hn2 her hck hsh hck2 hsh2 HER
      go_wp2_with fail
      refine ((unhide HS1) _ hsl).mono ?_
      rintro e w3 ⟨rfl, hb3⟩
      have hv3 := AT.below hb3 hv
      have hlt3 : a7 < w3.heap.size := Nat.lt_of_lt_of_le hlt7 hb3.size
      have sl3 := (hsl.below hb3).more hb3.size
      have f0 := ((hb3).cell (p := ⟨a7, 0, none⟩) hlt7).trans e0
      have f1 := ((hb3).cell (p := ⟨a7, 1, none⟩) hlt7).trans e1
      have f2 := ((hb3).cell (p := ⟨a7, 2, none⟩) hlt7).trans e2
      have f3 := ((hb3).cell (p := ⟨a7, 3, none⟩) hlt7).trans e3
      have f4 := ((hb3).cell (p := ⟨a7, 4, none⟩) hlt7).trans e4
      have f5 := ((hb3).cell (p := ⟨a7, 5, none⟩) hlt7).trans e5
      have f6 := ((hb3).cell (p := ⟨a7, 6, none⟩) hlt7).trans e6
      have f7 := ((hb3).cell (p := ⟨a7, 7, none⟩) hlt7).trans e7
      clear hsl hv hlt7 e0 e1 e2 e3 e4 e5 e6 e7
      obtain ⟨r0, r1, r2, r3, r4, r5⟩ := hv3.r.c6
      go_wp2_with fail
      refine ((unhide HBK) _ sl3).mono ?_
      rintro e w4 ⟨A', n', c', rfl, rfl, sl4, hb4⟩
      have hv4 := AT.below hb4 hv3
      have hlt4 : a7 < w4.heap.size := Nat.lt_of_lt_of_le hlt3 hb4.size
      have sl4a := (sl3.below hb4).more hb4.size
      have e0 := ((hb4).cell (p := ⟨a7, 0, none⟩) hlt3).trans f0
      have e1 := ((hb4).cell (p := ⟨a7, 1, none⟩) hlt3).trans f1
      have e2 := ((hb4).cell (p := ⟨a7, 2, none⟩) hlt3).trans f2
      have e3 := ((hb4).cell (p := ⟨a7, 3, none⟩) hlt3).trans f3
      have e4 := ((hb4).cell (p := ⟨a7, 4, none⟩) hlt3).trans f4
      have e5 := ((hb4).cell (p := ⟨a7, 5, none⟩) hlt3).trans f5
      have e6 := ((hb4).cell (p := ⟨a7, 6, none⟩) hlt3).trans f6
      have e7 := ((hb4).cell (p := ⟨a7, 7, none⟩) hlt3).trans f7
      clear hv3 hlt3 sl3 r0 r1 r2 r3 r4 r5 f0 f1 f2 f3 f4 f5 f6 f7
      go_wp2_with fail
      refine ((unhide HS2) A' _ c' _ sl4 rfl (by omega)).mono ?_
      rintro e w5 ⟨rfl, hb5⟩
      have hv5 := AT.below hb5 hv4
      have hlt5 : a7 < w5.heap.size := Nat.lt_of_lt_of_le hlt4 hb5.size
      have sl5 := (sl4a.below hb5).more hb5.size
      have f0 := ((hb5).cell (p := ⟨a7, 0, none⟩) hlt4).trans e0
      have f1 := ((hb5).cell (p := ⟨a7, 1, none⟩) hlt4).trans e1
      have f2 := ((hb5).cell (p := ⟨a7, 2, none⟩) hlt4).trans e2
      have f3 := ((hb5).cell (p := ⟨a7, 3, none⟩) hlt4).trans e3
      have f4 := ((hb5).cell (p := ⟨a7, 4, none⟩) hlt4).trans e4
      have f5 := ((hb5).cell (p := ⟨a7, 5, none⟩) hlt4).trans e5
      have f6 := ((hb5).cell (p := ⟨a7, 6, none⟩) hlt4).trans e6
      have f7 := ((hb5).cell (p := ⟨a7, 7, none⟩) hlt4).trans e7
      clear hv4 hlt4 sl4 sl4a e0 e1 e2 e3 e4 e5 e6 e7
      obtain ⟨c0, c1, c2⟩ := hv5.q.c3
      go_wp2_with fail
      refine ((unhide HHI) _ sl5).mono ?_
      rintro e w6 ⟨rfl, hb6⟩
      have hv6 := AT.below hb6 hv5
      have hlt6 : a7 < w6.heap.size := Nat.lt_of_lt_of_le hlt5 hb6.size
      have sl6 := (sl5.below hb6).more hb6.size
      have e0 := ((hb6).cell (p := ⟨a7, 0, none⟩) hlt5).trans f0
      have e1 := ((hb6).cell (p := ⟨a7, 1, none⟩) hlt5).trans f1
      have e2 := ((hb6).cell (p := ⟨a7, 2, none⟩) hlt5).trans f2
      have e3 := ((hb6).cell (p := ⟨a7, 3, none⟩) hlt5).trans f3
      have e4 := ((hb6).cell (p := ⟨a7, 4, none⟩) hlt5).trans f4
      have e5 := ((hb6).cell (p := ⟨a7, 5, none⟩) hlt5).trans f5
      have e6 := ((hb6).cell (p := ⟨a7, 6, none⟩) hlt5).trans f6
      have e7 := ((hb6).cell (p := ⟨a7, 7, none⟩) hlt5).trans f7
      clear hv5 hlt5 sl5 c0 c1 c2 f0 f1 f2 f3 f4 f5 f6 f7
      have gH := Blk.new w6 26 #[.int .i64 h0, .int .i64 h1, .int .i64 h2]
      have hv7 := AT.alloc hv6 (.cells #[.int .i64 h0, .int .i64 h1, .int .i64 h2] 26)
      have sl7 : Sl (w6.alloc (.cells #[.int .i64 h0, .int .i64 h1, .int .i64 h2] 26)) (w6.alloc (.cells #[.int .i64 h0, .int .i64 h1, .int .i64 h2] 26)).heap.size 3 A (es.map Ed.row) := (sl6.alloc (Nat.le_refl _) (.cells #[.int .i64 h0, .int .i64 h1, .int .i64 h2] 26)).more (by simp)
      go_wp2_with fail
      refine ((unhide HTI) _ sl7).mono ?_
      rintro e w8 ⟨rfl, hb8⟩
      have hv8 := AT.below hb8 hv7
      have gH8 := gH.below hb8 gH.lt
      clear hv6 hv7 sl6 sl7 gH hb8 hlt6 e0 e1 e2 e3 e4 e5 e6 e7
      have gT := Blk.new w8 66 #[.int .i64 q00, .int .i64 q01, .int .i64 q02, .int .i64 q10, .int .i64 q11, .int .i64 q12, .int .i64 q20, .int .i64 q21, .int .i64 q22]
      have gH9 := gH8.alloc (.cells #[.int .i64 q00, .int .i64 q01, .int .i64 q02, .int .i64 q10, .int .i64 q11, .int .i64 q12, .int .i64 q20, .int .i64 q21, .int .i64 q22] 66)
      have hv9 := AT.alloc hv8 (.cells #[.int .i64 q00, .int .i64 q01, .int .i64 q02, .int .i64 q10, .int .i64 q11, .int .i64 q12, .int .i64 q20, .int .i64 q21, .int .i64 q22] 66)
      go_wp2
      go_loopw [18] (fun i wr => (i = .int .i64 0 ∨ i = .int .i64 1 ∨ i = .int .i64 2 ∨ i = .int .i64 3) ∧ Blk wr (w8.heap.size) 66 #[.int .i64 q00, .int .i64 q01, .int .i64 q02, .int .i64 q10, .int .i64 q11, .int .i64 q12, .int .i64 q20, .int .i64 q21, .int .i64 q22] ∧ Blk wr (w6.heap.size) 26 #[.int .i64 h0, .int .i64 h1, .int .i64 h2] ∧ AT w wr #[.int .i64 (f 0), .int .i64 (o 0), .int .i64 (f 1), .int .i64 (o 1), .int .i64 (f 2), .int .i64 (o 2), .int .i64 per, .int .i64 dead, .int .i64 trip] #[.int .i64 i0, .int .i64 i1, .int .i64 i2] #[.bool k0, .bool k1, .bool k2, .bool k3, .bool k4, .bool k5]) (fun i _ => 3 - (intOf i).toNat)
      case atStart => exact ⟨.inl rfl, gT, gH9, hv9⟩
      case round =>
      clear gT gH9 hv9 gH8 hv8
      obtain ⟨hdj, gT, gH, hv⟩ := hrel
      have lT := gT.lt
      have lH := gH.lt
      have lI := hv.q.lt
      obtain ⟨t0, t1, t2, t3, t4, t5, t6, t7, t8⟩ := gT.c9
      obtain ⟨z0, z1, z2⟩ := gH.c3
      obtain ⟨c0, c1, c2⟩ := hv.q.c3
      rcases hdj with rfl | rfl | rfl | rfl
      · rcases HD0.out with ⟨hi, rfl⟩ | ⟨hi, hq, rfl⟩ | ⟨hi, hq, hh⟩
        · have ew : IntKind.i64.wrap (h0 - h0) = 0 := by rw [Int.sub_self]; rfl
          go_wp2
          go_region
          all_goals go_wp2
          all_goals go_roundw
          case rel => exact ⟨.inr (.inl rfl), gT.drew, gH.drew, hv.drew⟩
          case measure => simp [intOf]
        · subst hq
          have ew : IntKind.i64.wrap (h0 - h0) = 0 := by rw [Int.sub_self]; rfl
          go_wp2
          go_region
          all_goals go_wp2
          all_goals go_roundw
          case rel => exact ⟨.inr (.inl rfl), gT.drew, gH.drew, hv.drew⟩
          case measure => simp [intOf]
        · have ew : IntKind.i64.wrap (h0 - q00) = q02 := by rw [hh, show q00 + q02 - q00 = q02 by omega]; exact IntWalk.i64_in _ (by omega)
          clear hh
          have bq : (q02 == 0) = false := by simpa using hq
          go_wp2
          go_region
          all_goals go_wp2
          all_goals go_roundw
          case rel => exact ⟨.inr (.inl rfl), gT.drew, gH.drew, hv.drew⟩
          case measure => simp [intOf]
      · rcases HD1.out with ⟨hi, rfl⟩ | ⟨hi, hq, rfl⟩ | ⟨hi, hq, hh⟩
        · have ew : IntKind.i64.wrap (h1 - h1) = 0 := by rw [Int.sub_self]; rfl
          go_wp2
          go_region
          all_goals go_wp2
          all_goals go_roundw
          case rel => exact ⟨.inr (.inr (.inl rfl)), gT.drew, gH.drew, hv.drew⟩
          case measure => simp [intOf]
        · subst hq
          have ew : IntKind.i64.wrap (h1 - h1) = 0 := by rw [Int.sub_self]; rfl
          go_wp2
          go_region
          all_goals go_wp2
          all_goals go_roundw
          case rel => exact ⟨.inr (.inr (.inl rfl)), gT.drew, gH.drew, hv.drew⟩
          case measure => simp [intOf]
        · have ew : IntKind.i64.wrap (h1 - q10) = q12 := by rw [hh, show q10 + q12 - q10 = q12 by omega]; exact IntWalk.i64_in _ (by omega)
          clear hh
          have bq : (q12 == 0) = false := by simpa using hq
          go_wp2
          go_region
          all_goals go_wp2
          all_goals go_roundw
          case rel => exact ⟨.inr (.inr (.inl rfl)), gT.drew, gH.drew, hv.drew⟩
          case measure => simp [intOf]
      · rcases HD2.out with ⟨hi, rfl⟩ | ⟨hi, hq, rfl⟩ | ⟨hi, hq, hh⟩
        · have ew : IntKind.i64.wrap (h2 - h2) = 0 := by rw [Int.sub_self]; rfl
          go_wp2
          go_region
          all_goals go_wp2
          all_goals go_roundw
          case rel => exact ⟨.inr (.inr (.inr rfl)), gT.drew, gH.drew, hv.drew⟩
          case measure => simp [intOf]
        · subst hq
          have ew : IntKind.i64.wrap (h2 - h2) = 0 := by rw [Int.sub_self]; rfl
          go_wp2
          go_region
          all_goals go_wp2
          all_goals go_roundw
          case rel => exact ⟨.inr (.inr (.inr rfl)), gT.drew, gH.drew, hv.drew⟩
          case measure => simp [intOf]
        · have ew : IntKind.i64.wrap (h2 - q20) = q22 := by rw [hh, show q20 + q22 - q20 = q22 by omega]; exact IntWalk.i64_in _ (by omega)
          clear hh
          have bq : (q22 == 0) = false := by simpa using hq
          go_wp2
          go_region
          all_goals go_wp2
          all_goals go_roundw
          case rel => exact ⟨.inr (.inr (.inr rfl)), gT.drew, gH.drew, hv.drew⟩
          case measure => simp [intOf]
      · go_wp2
        go_ret
        exact ⟨rfl, hv.b⟩

end Go.Proofs.Ytgnojdiecgfeaaa
