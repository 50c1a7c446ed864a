/- The walk of the statement DeviceEnters. -/
import Derived.Test.YtnoihjjenceeaaaDoorDPlay
namespace Go.Proofs.YtnoihjjenceeaaaDoor
open Go.RowKit

theorem enters (s : Int) (hs : 0 ≤ s ∧ s ≤ 7) (x : Dn) :
    (nxD s x = 4 ∧ s = 4) ∨ (nxD s x = 4 ∧ s = 3 ∧ bits .and .i64 x.c 15 = 15 ∧ x.fault = false) ∨ (nxD s x = 3 ∧ s = 3) ∨ (nxD s x = 3 ∧ s = 4) ∨ (nxD s x = 3 ∧ s = 2 ∧ x.link = true ∧ bits .and .i64 x.c 7 = 7) ∨
    (nxD s x = 2 ∧ s = 1 ∧ bits .and .i64 x.c 7 = 6) ∨ (nxD s x = 2 ∧ ¬ s = 1) ∨ (nxD s x = 5 ∧ s = 5) ∨ (nxD s x = 5 ∧ s = 4) ∨ nxD s x = 1 ∨ nxD s x = 6 ∨ nxD s x = 7 := by
  rw [and15, and7]
  unfold nxD
  have h1 := bt1 x.c
  have h2 := bt2 x.c
  have h4 := bt4 x.c
  have h8 := bt8 x.c
  obtain ⟨b128, _⟩ : ∃ b, bt x.c 128 = b := ⟨_, rfl⟩
  generalize hX : (bv x.c).toNat = X at *
  generalize bt x.c 1 = b1 at *
  generalize bt x.c 2 = b2 at *
  generalize bt x.c 4 = b4 at *
  generalize bt x.c 8 = b8 at *
  generalize bt x.c 128 = b9 at *
  rcases st_cases hs with rfl | rfl | rfl | rfl | rfl | rfl | rfl | rfl
  · cases x.fault <;> simp [nx]
  · cases x.fault <;> cases b1 <;> cases b2 <;> cases b4 <;> simp [nx] at h1 h2 h4 ⊢ <;> omega
  · cases x.fault <;> cases b2 <;> cases b4 <;> cases b1 <;> cases x.link <;> simp [nx] at h1 h2 h4 ⊢ <;> omega
  · cases x.fault <;> cases b2 <;> cases b4 <;> cases b1 <;> cases b8 <;> simp [nx] at h1 h2 h4 h8 ⊢ <;> omega
  · cases x.fault <;> cases b2 <;> cases b4 <;> cases b1 <;> cases b8 <;> simp [nx]
  · cases x.fault <;> cases b2 <;> cases b4 <;> cases x.still <;> simp [nx]
  · cases x.fault <;> cases x.done <;> simp [nx]
  · cases x.fault <;> cases b9 <;> simp [nx]

set_option maxRecDepth 100000 in
set_option maxHeartbeats 3200000 in
theorem deviceEnters_walk (A : Option Addr) (n c : Nat) (ds : List Dn) (w : World) (hE : Sl w w.heap.size 5 A (ds.map Dn.row)) (hn : n = ds.length) (hc : Cw w) :
    Calls Tryd.prog 5 #[.slice A n c] w fun e w' => e = .returned (.bool true) ∧ Below w.heap.size w w' := by
  have HN := Lib.hid hn
  clear hn
  by_cases hbig : 100 < n
  · go_enter Tryd.func5, Tryd.ntmps5
    go_wp2_with fail
    refine (awakeD_walk _ hc).mono ?_
    rintro e w1 ⟨rfl, hb1⟩
    go_wp2_with fail
    refine (awakeD_walk _ (hc.below hb1 hc.lt)).mono ?_
    rintro e w2 ⟨rfl, hb2⟩
    have hb3 := hb1.trans (hb2.mono hb1.size)
    go_wp2
    go_ret
    exact ⟨rfl, hb3⟩
  · go_enter Tryd.func5, Tryd.ntmps5
    go_wp2_with fail
    refine (awakeD_walk _ hc).mono ?_
    rintro e w1 ⟨rfl, hb1⟩
    go_wp2
    go_loopw [3, 18] (fun x i wr => ∃ (k : Nat) (t : Int), k ≤ n ∧ i = .int .i64 k ∧ x = .int .i64 t ∧ 0 ≤ t ∧ t ≤ 7 ∧ Below w.heap.size w wr) (fun _ i _ => n - (intOf i).toNat)
    case atStart => exact ⟨0, 0, Nat.zero_le _, rfl, rfl, by decide, by decide, hb1⟩
    case round =>
    clear hb1
    obtain ⟨k, s, hk, rfl, rfl, hs0, hs7, hb⟩ := hrel
    by_cases hlt : k < n
    · obtain ⟨x, hx⟩ : ∃ x, ds[k]? = some x := ⟨_, List.getElem?_eq_getElem (by have := HN.out; omega)⟩
      obtain ⟨ad, p, rfl, hpa, hpb, e0, e1, e2, e3, e4⟩ := (hE.below hb).five (k := k) (x0 := .int .i64 x.c) (x1 := .bool x.link) (x2 := .bool x.fault) (x3 := .bool x.still) (x4 := .bool x.done) (by rw [List.getElem?_map, hx]; rfl)
      have hs := hb.size
      have hl1 : p.block < wr.heap.size := by omega
      have hnx := fun W => next_walk s x.c x.link x.fault x.still x.done W ⟨hs0, hs7⟩
      have hen := enters s ⟨hs0, hs7⟩ x
      have hnb := nxD_in s x
      obtain ⟨t', ht'⟩ : ∃ t', nxD s x = t' := ⟨_, rfl⟩
      have hnx' : ∀ W, Calls Tryd.prog 11 #[.int .i64 s, .agg #[.int .i64 x.c, .bool x.link, .bool x.fault, .bool x.still, .bool x.done]] W fun e w' => e = .returned (.tuple #[.int .i64 t', .nilIface]) ∧ Below W.heap.size W w' := fun W => by rw [← ht']; exact hnx W
      rw [ht'] at hen hnb
      have HNX := hide hnx'
      have HEN := Lib.hid hen
      obtain ⟨hn0, hn7⟩ := hnb
      clear hnx hnx' ht' hx hen
      have g0 := Blk.new wr 23 #[.int .i64 x.c, .bool x.link, .bool x.fault, .bool x.still, .bool x.done]
      have hb2 := hb.alloc hs (.cells #[.int .i64 x.c, .bool x.link, .bool x.fault, .bool x.still, .bool x.done] 23)
      go_wp2_with fail
      refine ((unhide HNX) _).mono ?_
      rintro e w2 ⟨rfl, hb3⟩
      have hb4 := hb2.trans (hb3.mono hb2.size)
      have g1 := g0.below hb3 g0.lt
      have lG := g1.lt
      obtain ⟨x0, x1, x2, x3, x4⟩ := g1.c5
      clear g0 hb2 hb3 hb e0 e1 e2 e3 e4 g1
      rcases HEN.out with ⟨rfl, rfl⟩ | ⟨rfl, rfl, h15, hfa⟩ | ⟨rfl, rfl⟩ | ⟨rfl, rfl⟩ | ⟨rfl, rfl, hli, h7⟩ | ⟨rfl, rfl, h6⟩ | ⟨rfl, hne⟩ | ⟨rfl, rfl⟩ | ⟨rfl, rfl⟩ | rfl | rfl | rfl
      all_goals
        try rw [hfa] at x2
        try rw [hli] at x1
        try have e1 : (s == 1) = false := by simpa using hne
        go_wp2
        go_roundw
        case rel => exact ⟨k + 1, _, by omega, by go_num, rfl, by decide, by decide, hb4⟩
        case measure => simp [intOf]; omega
    · obtain rfl : k = n := by omega
      go_wp2
      go_ret
      exact ⟨rfl, hb⟩

end Go.Proofs.YtnoihjjenceeaaaDoor
