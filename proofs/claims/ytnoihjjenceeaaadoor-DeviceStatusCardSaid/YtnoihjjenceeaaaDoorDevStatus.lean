/- The walk of the statement DeviceStatus; what the two listed variables give. -/
import Derived.Test.YtnoihjjenceeaaaDoorDLaid
namespace Go.Proofs.YtnoihjjenceeaaaDoor
open Go.ChangeShapes Go.WideShapes Go.ChangeAt Go.WideMaps Go.WideElems Go.RowKit

theorem cells_of {W : World} {nm : String} {g N : Nat} {cs0 : Array Value} {xs : List (DataW Unit × List MemPlace)} {m1 : Nat} (hg0 : Tryd.prog.globalNamed nm = some g) (hv0 : World.var? Tryd.prog W nm = some cs0) (hn3 : xs.length = N)
    (hel : ∀ i, i < N → DataW.trod (fun _ => ()) Tryd.prog W 0 (fun _ => true) false m1 3 (List.take 1 (List.drop i cs0.toList)) = xs[i]?) :
    ∀ (i : Nat) (n : Int), i < N → (xs.map (fun x => x.1))[i]? = some (.lit (.int .i64 n)) → W.cell? ⟨g, i, none⟩ = some (.int .i64 n) := by
  intro i n hi hn
  have h := hel i hi
  have hi' : i < xs.length := by omega
  rw [List.getElem?_eq_getElem hi'] at h
  rw [List.getElem?_map, List.getElem?_eq_getElem hi'] at hn
  simp only [Option.map_some, Option.some.injEq] at hn
  obtain ⟨k, e1, e2, _⟩ := DataW.trod_int Tryd.underlying3 h
  rw [e2] at hn
  have hk : k = n := by simpa using hn
  subst hk
  have hc : cs0[i]? = some (.int .i64 k) := by
    have h2 : (List.take 1 (List.drop i cs0.toList))[0]? = some (.int .i64 k) := by rw [e1]; rfl
    rw [List.getElem?_take_of_lt (by decide), List.getElem?_drop] at h2
    simpa using h2
  have := World.var?_cell hg0 hv0 i
  rw [hc] at this
  exact this
/-- The status words that the package keeps. -/
structure Sw (w : World) : Prop where
  s0 : w.cell? ⟨1, 0, none⟩ = some (.int .i64 0)
  s1 : w.cell? ⟨1, 1, none⟩ = some (.int .i64 64)
  s2 : w.cell? ⟨1, 2, none⟩ = some (.int .i64 33)
  s3 : w.cell? ⟨1, 3, none⟩ = some (.int .i64 35)
  s4 : w.cell? ⟨1, 4, none⟩ = some (.int .i64 39)
  s5 : w.cell? ⟨1, 5, none⟩ = some (.int .i64 7)
  s6 : w.cell? ⟨1, 6, none⟩ = some (.int .i64 15)
  s7 : w.cell? ⟨1, 7, none⟩ = some (.int .i64 8)
theorem Sw.lt {w : World} (h : Sw w) : 1 < w.heap.size := World.block_lt_of_cell? w _ h.s0
theorem Sw.below {w w' : World} {B : Nat} (h : Sw w) (hb : Below B w w') (hB : 1 < B) : Sw w' :=
  ⟨(hb.cell hB).trans h.s0, (hb.cell hB).trans h.s1, (hb.cell hB).trans h.s2, (hb.cell hB).trans h.s3, (hb.cell hB).trans h.s4, (hb.cell hB).trans h.s5, (hb.cell hB).trans h.s6, (hb.cell hB).trans h.s7⟩
theorem gStatus : Tryd.prog.globalNamed "commutator/device.statusWords" = some 1 := by kernel_rfl
theorem tStatus : (Tryd.prog.globals[1]?).map (·.type) = some 57 := by kernel_rfl
def laidC2 {H : Type} : List (String × DataW H) := [("commutator/device.statusWords", Rows.laid_commutator_device_statusWords), ("commutator/device.controlWords", Rows.laid_commutator_device_controlWords)]
theorem of_laid2 {W : World} (h : laidMetH Tryd.prog laidC2 W) : Sw W ∧ Cw W := by
  rw [MakeChecks.laidMetH_plain _ _ _ (by kernel_rfl)] at h
  obtain ⟨ps, ⟨g0, t0, cs0, f0, p0, q0, hg0, ht0, hv0, hd0, ⟨g1, t1, cs1, f1, p1, q1, hg1, ht1, hv1, hd1, _, _⟩, _⟩, _, _⟩ := h
  obtain rfl := Option.some.inj (gStatus.symm.trans hg0)
  obtain rfl := Option.some.inj (tStatus.symm.trans ht0)
  obtain rfl := Option.some.inj (gControl.symm.trans hg1)
  obtain rfl := Option.some.inj (tControl.symm.trans ht1)
  have c3 : Tryd.prog.cellsOf 3 = 1 := by kernel_rfl
  refine ⟨?_, ?_⟩
  · obtain ⟨xs, m1, rfl, hx1, hlen, hn3, hel⟩ := DataW.trod_array Tryd.underlying57 hd0
    simp only [c3, Nat.mul_one] at hel
    have hx : xs.map (fun x => x.1) = [.lit (.int .i64 0), .lit (.int .i64 64), .lit (.int .i64 33), .lit (.int .i64 35), .lit (.int .i64 39), .lit (.int .i64 7), .lit (.int .i64 15), .lit (.int .i64 8)] := by
      simp only [Prod.mk.injEq, Rows.laid_commutator_device_statusWords, DataW.agg.injEq] at hx1
      exact hx1.1.symm
    have key := cells_of hg0 hv0 hn3 hel
    rw [hx] at key
    exact ⟨key 0 0 (by decide) rfl, key 1 64 (by decide) rfl, key 2 33 (by decide) rfl, key 3 35 (by decide) rfl, key 4 39 (by decide) rfl, key 5 7 (by decide) rfl, key 6 15 (by decide) rfl, key 7 8 (by decide) rfl⟩
  · obtain ⟨xs, m1, rfl, hx1, hlen, hn3, hel⟩ := DataW.trod_array Tryd.underlying55 hd1
    simp only [c3, Nat.mul_one] at hel
    have hx : xs.map (fun x => x.1) = [.lit (.int .i64 0), .lit (.int .i64 2), .lit (.int .i64 6), .lit (.int .i64 7), .lit (.int .i64 15), .lit (.int .i64 128)] := by
      simp only [Prod.mk.injEq, Rows.laid_commutator_device_controlWords, DataW.agg.injEq] at hx1
      exact hx1.1.symm
    have key := cells_of hg1 hv1 hn3 hel
    rw [hx] at key
    exact ⟨key 0 0 (by decide) rfl, key 1 2 (by decide) rfl, key 2 6 (by decide) rfl, key 3 7 (by decide) rfl, key 4 15 (by decide) rfl, key 5 128 (by decide) rfl⟩

def stw (s : Int) : Int := if s = 0 then 0 else if s = 1 then 64 else if s = 2 then 33 else if s = 3 then 35 else if s = 4 then 39 else if s = 5 then 7 else if s = 6 then 15 else 8
def stat (s : Int) (link : Bool) : Int := stw s + if link = true then 16 else 0
set_option maxRecDepth 100000 in
set_option maxHeartbeats 3200000 in
theorem status_walk (s : Int) (link : Bool) (w : World) (h : 0 ≤ s ∧ s ≤ 7) (hs : Sw w) : Calls Tryd.prog 21 #[.int .i64 s, .bool link] w fun e w' => e = .returned (.tuple #[.int .i64 (stat s link), .nilIface]) ∧ w = w' := by
  obtain ⟨q0, q1, q2, q3, q4, q5, q6, q7⟩ := hs
  rcases st_cases h with rfl | rfl | rfl | rfl | rfl | rfl | rfl | rfl
  all_goals
    cases link
    all_goals
      go_enter Tryd.func21, Tryd.ntmps21
      go_wp2
      go_ret2
      exact ⟨by simp [stat, stw], rfl⟩
set_option maxRecDepth 100000 in
set_option maxHeartbeats 3200000 in
theorem rstatus_walk (s : Int) (link : Bool) (w : World) (h : 0 ≤ s ∧ s ≤ 7) : Calls Tryd.prog 22 #[.int .i64 s, .bool link] w fun e w' => e = .returned (.int .i64 (stat s link)) ∧ Below w.heap.size w w' := by
  have hb := (Below.refl w.heap.size w).alloc (Nat.le_refl _) (.cells #[.int .i64 0, .int .i64 64, .int .i64 33, .int .i64 35, .int .i64 39, .int .i64 7, .int .i64 15, .int .i64 8] 3)
  rcases st_cases h with rfl | rfl | rfl | rfl | rfl | rfl | rfl | rfl
  all_goals
    cases link
    all_goals
      go_enter Tryd.func22, Tryd.ntmps22
      go_wp2
      go_ret
      exact ⟨by simp [stat, stw], hb⟩
theorem status_bad (s : Int) (link : Bool) (w : World) (h : stOk s = false) : Calls Tryd.prog 21 #[.int .i64 s, .bool link] w fun e w' => e = .returned (.tuple #[.int .i64 0, .iface 31 (.int .i64 3)]) ∧ w = w' := by
  have hk := fun W => known_walk s W
  rw [h] at hk
  have HK := hide hk
  clear hk h
  go_enter Tryd.func21, Tryd.ntmps21
  go_wp2_with fail
  refine ((unhide HK) _).mono ?_
  rintro e w1 ⟨rfl, rfl⟩
  go_wp2
  go_ret2
  exact ⟨rfl, rfl⟩
theorem pwr_trq (s : Int) : (pwr s = true ∧ trq s = true) ∨ (pwr s = true ∧ trq s = false) ∨ (pwr s = false ∧ trq s = false) := by
  unfold pwr
  cases trq s <;> cases (s == 3) <;> simp
theorem not_ok {s : Int} (h : stOk s = false) : pwr s = false ∧ trq s = false := by
  have h2 : ¬ (0 ≤ s ∧ s ≤ 7) := fun h3 => by rw [stOk_iff.2 h3] at h; cases h
  have h3 : (s == 3) = false := by simp only [beq_eq_false_iff_ne, ne_eq]; omega
  have h4 : (s == 4) = false := by simp only [beq_eq_false_iff_ne, ne_eq]; omega
  have h5 : (s == 5) = false := by simp only [beq_eq_false_iff_ne, ne_eq]; omega
  have h6 : (s == 6) = false := by simp only [beq_eq_false_iff_ne, ne_eq]; omega
  simp [pwr, trq, h3, h4, h5, h6]

set_option maxRecDepth 100000 in
set_option maxHeartbeats 3200000 in
theorem deviceStatus_walk (s : Int) (link : Bool) (w : World) (hc : Sw w ∧ Cw w) :
    Calls Tryd.prog 9 #[.int .i64 s, .bool link] w fun e w' => e = .returned (.bool true) ∧ Below w.heap.size w w' := by
  obtain ⟨hsw, hcw⟩ := hc
  have k1 := fun W => rstate_walk s W
  have k2 := fun W => power_walk s W
  have k3 := fun W => torque_walk s W
  have k4 := fun W => rpower_walk s W
  have k5 := fun W => rtorque_walk s W
  by_cases hk : stOk s = true
  · have hs := stOk_iff.1 hk
    have k6 := fun W (h : Sw W) => status_walk s link W hs h
    have k7 := fun W => rstatus_walk s link W hs
    obtain ⟨n, hn⟩ : ∃ n, stat s link = n := ⟨_, rfl⟩
    obtain ⟨p, hp⟩ : ∃ p, pwr s = p := ⟨_, rfl⟩
    obtain ⟨t, ht⟩ : ∃ t, trq s = t := ⟨_, rfl⟩
    have hpt := pwr_trq s
    simp only [hn] at k6 k7
    simp only [hp] at k2 k4
    simp only [ht] at k3 k5
    rw [hp, ht] at hpt
    simp only [hk] at k1
    have K1 := hide k1
    have K2 := hide k2
    have K3 := hide k3
    have K4 := hide k4
    have K5 := hide k5
    have K6 := hide k6
    have K7 := hide k7
    clear k1 k2 k3 k4 k5 k6 k7 hn hp ht hk hs
    rcases hpt with ⟨rfl, rfl⟩ | ⟨rfl, rfl⟩ | ⟨rfl, rfl⟩
    all_goals
      go_enter Tryd.func9, Tryd.ntmps9
      go_wp2_with fail
      refine (awakeD_walk _ hcw).mono ?_
      rintro e w1 ⟨rfl, hb1⟩
      go_wp2_with fail
      refine ((unhide K6) _ (hsw.below hb1 hsw.lt)).mono ?_
      rintro e w2 ⟨rfl, rfl⟩
      go_wp2_with fail
      refine ((unhide K2) _).mono ?_
      rintro e w2 ⟨rfl, rfl⟩
      go_wp2_with fail
      refine ((unhide K3) _).mono ?_
      rintro e w2 ⟨rfl, rfl⟩
      go_wp2_with fail
      refine ((unhide K1) _).mono ?_
      rintro e w2 ⟨rfl, rfl⟩
      go_wp2_with fail
      refine ((unhide K7) _).mono ?_
      rintro e w2 ⟨rfl, hb2⟩
      have hb3 := hb1.trans (hb2.mono hb1.size)
      go_wp2_with fail
      refine ((unhide K4) _).mono ?_
      rintro e w3 ⟨rfl, rfl⟩
      go_wp2_with fail
      refine ((unhide K5) _).mono ?_
      rintro e w3 ⟨rfl, rfl⟩
      go_wp2
      go_ret
      exact ⟨by first | rfl | simp, hb3⟩
  · have hk : stOk s = false := by simpa using hk
    have k6 := fun W => status_bad s link W hk
    obtain ⟨hp, ht⟩ := not_ok hk
    simp only [hp] at k2
    simp only [ht] at k3
    simp only [hk] at k1
    have K1 := hide k1
    have K2 := hide k2
    have K3 := hide k3
    have K6 := hide k6
    clear k1 k2 k3 k4 k5 k6 hp ht hk
    go_enter Tryd.func9, Tryd.ntmps9
    go_wp2_with fail
    refine (awakeD_walk _ hcw).mono ?_
    rintro e w1 ⟨rfl, hb1⟩
    go_wp2_with fail
    refine ((unhide K6) _).mono ?_
    rintro e w2 ⟨rfl, rfl⟩
    go_wp2_with fail
    refine ((unhide K2) _).mono ?_
    rintro e w2 ⟨rfl, rfl⟩
    go_wp2_with fail
    refine ((unhide K3) _).mono ?_
    rintro e w2 ⟨rfl, rfl⟩
    go_wp2_with fail
    refine ((unhide K1) _).mono ?_
    rintro e w2 ⟨rfl, rfl⟩
    go_wp2_with fail
    refine (is_walk 3 _).mono ?_
    rintro e w2 ⟨rfl, rfl⟩
    go_wp2
    go_ret
    exact ⟨rfl, hb1⟩

end Go.Proofs.YtnoihjjenceeaaaDoor
