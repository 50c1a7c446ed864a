/- The walk of the statement DeviceFaults. -/
import Derived.Test.YtnoihjjenceeaaaDoorDPlay
namespace Go.Proofs.YtnoihjjenceeaaaDoor
open Go.RowKit

theorem faults1 (s : Int) (hs : 0 ≤ s ∧ s ≤ 7) (k0 k1 : Int) : run s [⟨k0, false, true, false, true⟩, ⟨k1, false, true, false, true⟩] = 7 := by
  show nxD (nxD s _) _ = 7
  unfold nxD
  rcases st_cases hs with rfl | rfl | rfl | rfl | rfl | rfl | rfl | rfl <;> simp [nx]
theorem faults2 (k2 k3 : Int) : run 7 [⟨bits .or .i64 k2 128, false, true, false, false⟩, ⟨bits .andNot .i64 k3 128, true, false, false, true⟩] = 7 := by
  simp only [run, List.foldl_cons, List.foldl_nil]
  unfold nxD
  rw [bt_andNot128]
  simp [nx]
theorem faults3 (k2 : Int) : run 7 [⟨bits .or .i64 k2 128, false, false, false, false⟩] = 1 := by
  simp only [run, List.foldl_cons, List.foldl_nil]
  unfold nxD
  rw [bt_or128]
  simp [nx]

set_option maxRecDepth 100000 in
set_option maxHeartbeats 3200000 in
theorem deviceFaults_walk (A : Option Addr) (n c : Nat) (ds : List Dn) (k0 k1 k2 k3 : Int) (w : World) (hE : Sl w w.heap.size 5 A (ds.map Dn.row)) (hn : n = ds.length) (hc : Cw w) :
    Calls Tryd.prog 7 #[.slice A n c, .agg #[.int .i64 k0, .int .i64 k1, .int .i64 k2, .int .i64 k3]] w fun e w' => e = .returned (.bool true) ∧ Below w.heap.size w w' := by
  have HN := Lib.hid hn
  clear hn
  have g0 := Blk.new w 47 #[.int .i64 k0, .int .i64 k1, .int .i64 k2, .int .i64 k3]
  have hb0 := (Below.refl w.heap.size w).alloc (Nat.le_refl _) (.cells #[.int .i64 k0, .int .i64 k1, .int .i64 k2, .int .i64 k3] 47)
  have hc0 := hc.below hb0 hc.lt
  by_cases hbig : 100 < n
  · go_enter Tryd.func7, Tryd.ntmps7
    go_wp2_with fail
    refine (awakeD_walk _ hc0).mono ?_
    rintro e w1 ⟨rfl, hb1⟩
    have hb2 := hb0.trans (hb1.mono hb0.size)
    go_wp2_with fail
    refine (awakeD_walk _ (hc.below hb2 hc.lt)).mono ?_
    rintro e w2 ⟨rfl, hb3⟩
    have hb4 := hb2.trans (hb3.mono hb2.size)
    go_wp2
    go_ret
    exact ⟨rfl, hb4⟩
  · have hpl := fun (W : World) (h : Sl W W.heap.size 5 A (ds.map Dn.row)) => play_walk 0 A n c ds W h HN.out (by omega) (by decide)
    have hsb := run_in (s := 0) (by decide) ds
    obtain ⟨S, hS⟩ : ∃ S, run 0 ds = S := ⟨_, rfl⟩
    simp only [hS] at hpl hsb
    have hf1 := faults1 S hsb k0 k1
    have hf2 := faults2 k2 k3
    have hf3 := faults3 k2
    obtain ⟨o2, ho2⟩ : ∃ x, bits .or .i64 k2 128 = x := ⟨_, rfl⟩
    obtain ⟨a3, ha3⟩ : ∃ x, bits .andNot .i64 k3 128 = x := ⟨_, rfl⟩
    rw [ho2, ha3] at hf2
    rw [ho2] at hf3
    have p1 : ∀ (W : World), Calls Tryd.prog 18 #[.int .i64 S, .slice (some ⟨W.heap.size, 0, none⟩) 2 2] (W.alloc (.cells #[.int .i64 k0, .bool false, .bool true, .bool false, .bool true, .int .i64 k1, .bool false, .bool true, .bool false, .bool true] 23)) fun e w' => e = .returned (.tuple #[.int .i64 7, .bool true]) ∧ Below (W.alloc (.cells #[.int .i64 k0, .bool false, .bool true, .bool false, .bool true, .int .i64 k1, .bool false, .bool true, .bool false, .bool true] 23)).heap.size (W.alloc (.cells #[.int .i64 k0, .bool false, .bool true, .bool false, .bool true, .int .i64 k1, .bool false, .bool true, .bool false, .bool true] 23)) w' := fun W => by
      have h := play_walk S (some ⟨W.heap.size, 0, none⟩) 2 2 [⟨k0, false, true, false, true⟩, ⟨k1, false, true, false, true⟩] (W.alloc (.cells #[.int .i64 k0, .bool false, .bool true, .bool false, .bool true, .int .i64 k1, .bool false, .bool true, .bool false, .bool true] 23)) (Sl.of_block (Blk.new W 23 #[.int .i64 k0, .bool false, .bool true, .bool false, .bool true, .int .i64 k1, .bool false, .bool true, .bool false, .bool true]) rfl (by simp [Dn.row]) (by simp)) rfl (by decide) hsb
      rw [hf1] at h
      exact h
    have p2 : ∀ (W : World), Calls Tryd.prog 18 #[.int .i64 7, .slice (some ⟨W.heap.size, 0, none⟩) 2 2] (W.alloc (.cells #[.int .i64 o2, .bool false, .bool true, .bool false, .bool false, .int .i64 a3, .bool true, .bool false, .bool false, .bool true] 23)) fun e w' => e = .returned (.tuple #[.int .i64 7, .bool true]) ∧ Below (W.alloc (.cells #[.int .i64 o2, .bool false, .bool true, .bool false, .bool false, .int .i64 a3, .bool true, .bool false, .bool false, .bool true] 23)).heap.size (W.alloc (.cells #[.int .i64 o2, .bool false, .bool true, .bool false, .bool false, .int .i64 a3, .bool true, .bool false, .bool false, .bool true] 23)) w' := fun W => by
      have h := play_walk 7 (some ⟨W.heap.size, 0, none⟩) 2 2 [⟨o2, false, true, false, false⟩, ⟨a3, true, false, false, true⟩] (W.alloc (.cells #[.int .i64 o2, .bool false, .bool true, .bool false, .bool false, .int .i64 a3, .bool true, .bool false, .bool false, .bool true] 23)) (Sl.of_block (Blk.new W 23 #[.int .i64 o2, .bool false, .bool true, .bool false, .bool false, .int .i64 a3, .bool true, .bool false, .bool false, .bool true]) rfl (by simp [Dn.row]) (by simp)) rfl (by decide) (by decide)
      rw [hf2] at h
      exact h
    have p3 : ∀ (W : World), Calls Tryd.prog 18 #[.int .i64 7, .slice (some ⟨W.heap.size, 0, none⟩) 1 1] (W.alloc (.cells #[.int .i64 o2, .bool false, .bool false, .bool false, .bool false] 23)) fun e w' => e = .returned (.tuple #[.int .i64 1, .bool true]) ∧ Below (W.alloc (.cells #[.int .i64 o2, .bool false, .bool false, .bool false, .bool false] 23)).heap.size (W.alloc (.cells #[.int .i64 o2, .bool false, .bool false, .bool false, .bool false] 23)) w' := fun W => by
      have h := play_walk 7 (some ⟨W.heap.size, 0, none⟩) 1 1 [⟨o2, false, false, false, false⟩] (W.alloc (.cells #[.int .i64 o2, .bool false, .bool false, .bool false, .bool false] 23)) (Sl.of_block (Blk.new W 23 #[.int .i64 o2, .bool false, .bool false, .bool false, .bool false]) rfl (by simp [Dn.row]) (by simp)) rfl (by decide) (by decide)
      rw [hf3] at h
      exact h
    have HPL := hide hpl
    have P1 := hide p1
    have P2 := hide p2
    have P3 := hide p3
    clear hpl p1 p2 p3 hf1 hf2 hf3 hS hsb hc
    go_enter Tryd.func7, Tryd.ntmps7
    go_wp2_with fail
    refine (awakeD_walk _ hc0).mono ?_
    rintro e w1 ⟨rfl, hb1⟩
    have hb2 := hb0.trans (hb1.mono hb0.size)
    have g1 := g0.below hb1 g0.lt
    clear hb0 hb1 g0 hc0
    go_wp2_with fail
    refine ((unhide HPL) _ ((hE.below hb2).more hb2.size)).mono ?_
    rintro e w2 ⟨rfl, hb3⟩
    have hb4 := hb2.trans (hb3.mono hb2.size)
    have g2 := g1.below hb3 g1.lt
    clear hb2 hb3 g1
    obtain ⟨x0, x1, x2, x3⟩ := g2.c4
    have l2 := g2.lt
    go_wp2_with fail
    refine ((unhide P1) _).mono ?_
    rintro e w3 ⟨rfl, hb5⟩
    have hb6 := (hb4.alloc hb4.size (.cells #[.int .i64 k0, .bool false, .bool true, .bool false, .bool true, .int .i64 k1, .bool false, .bool true, .bool false, .bool true] 23)).trans (hb5.mono (hb4.alloc hb4.size (.cells #[.int .i64 k0, .bool false, .bool true, .bool false, .bool true, .int .i64 k1, .bool false, .bool true, .bool false, .bool true] 23)).size)
    have g3 := (g2.alloc (.cells #[.int .i64 k0, .bool false, .bool true, .bool false, .bool true, .int .i64 k1, .bool false, .bool true, .bool false, .bool true] 23)).below hb5 (g2.alloc (.cells #[.int .i64 k0, .bool false, .bool true, .bool false, .bool true, .int .i64 k1, .bool false, .bool true, .bool false, .bool true] 23)).lt
    clear hb4 hb5 g2 x0 x1 x2 x3 l2
    obtain ⟨x0, x1, x2, x3⟩ := g3.c4
    have l3 := g3.lt
    go_wp2_with fail
    refine ((unhide P2) _).mono ?_
    rintro e w4 ⟨rfl, hb7⟩
    have hb8 := (hb6.alloc hb6.size (.cells #[.int .i64 o2, .bool false, .bool true, .bool false, .bool false, .int .i64 a3, .bool true, .bool false, .bool false, .bool true] 23)).trans (hb7.mono (hb6.alloc hb6.size (.cells #[.int .i64 o2, .bool false, .bool true, .bool false, .bool false, .int .i64 a3, .bool true, .bool false, .bool false, .bool true] 23)).size)
    have g4 := (g3.alloc (.cells #[.int .i64 o2, .bool false, .bool true, .bool false, .bool false, .int .i64 a3, .bool true, .bool false, .bool false, .bool true] 23)).below hb7 (g3.alloc (.cells #[.int .i64 o2, .bool false, .bool true, .bool false, .bool false, .int .i64 a3, .bool true, .bool false, .bool false, .bool true] 23)).lt
    clear hb6 hb7 g3 x0 x1 x2 x3 l3
    obtain ⟨x0, x1, x2, x3⟩ := g4.c4
    have l4 := g4.lt
    go_wp2_with fail
    refine ((unhide P3) _).mono ?_
    rintro e w5 ⟨rfl, hb9⟩
    have hbA := (hb8.alloc hb8.size (.cells #[.int .i64 o2, .bool false, .bool false, .bool false, .bool false] 23)).trans (hb9.mono (hb8.alloc hb8.size (.cells #[.int .i64 o2, .bool false, .bool false, .bool false, .bool false] 23)).size)
    go_wp2_with fail
    refine (torque_walk 7 _).mono ?_
    rintro e w6 ⟨rfl, rfl⟩
    rw [show trq 7 = false from rfl]
    go_wp2_with fail
    refine (power_walk 7 _).mono ?_
    rintro e w6 ⟨rfl, rfl⟩
    rw [show pwr 7 = false from rfl]
    go_wp2
    go_ret
    exact ⟨rfl, hbA⟩

end Go.Proofs.YtnoihjjenceeaaaDoor
