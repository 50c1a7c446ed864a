/- The walk of layer 55's 'play'. -/
import Derived.Test.YtnoihjjenceeaaaDoorDOpen
import Derived.Test.YtnoihjjenceeaaaDoorDBits
namespace Go.Proofs.YtnoihjjenceeaaaDoor
open Go.RowKit

/-- The next state with an input. -/
def nxD (s : Int) (x : Dn) : Int := nx s (bt x.c 1) (bt x.c 2) (bt x.c 4) (bt x.c 8) (bt x.c 128) x.fault x.link x.still x.done
/-- The state after inputs. -/
def run (s : Int) (ds : List Dn) : Int := ds.foldl nxD s
theorem nxD_in (s : Int) (x : Dn) : 0 ≤ nxD s x ∧ nxD s x ≤ 7 := nx_in _ _ _ _ _ _ _ _ _ _
theorem run_in {s : Int} (h : 0 ≤ s ∧ s ≤ 7) (ds : List Dn) : 0 ≤ run s ds ∧ run s ds ≤ 7 := by
  induction ds generalizing s with
  | nil => exact h
  | cons x ds ih => exact ih (nxD_in s x)
theorem run_take (s : Int) (ds : List Dn) (k : Nat) (x : Dn) (h : ds[k]? = some x) : run s (ds.take (k + 1)) = nxD (run s (ds.take k)) x := by
  have hk := (List.getElem?_eq_some_iff.1 h)
  rw [List.take_succ_eq_append_getElem hk.1, hk.2]
  simp [run]
theorem Sl.five {w : World} {B : Nat} {A : Option Addr} {rs : List (List Value)} {k : Nat} {x0 x1 x2 x3 x4 : Value} (h : Sl w B 5 A rs) (hk : rs[k]? = some [x0, x1, x2, x3, x4]) :
    ∃ ad p, A = some ad ∧ ad.add (k * 5) = p ∧ p.block < B ∧ w.cell? p = some x0 ∧ w.cell? ⟨p.block, p.off + 1, none⟩ = some x1 ∧ w.cell? ⟨p.block, p.off + 2, none⟩ = some x2 ∧ w.cell? ⟨p.block, p.off + 3, none⟩ = some x3 ∧ w.cell? ⟨p.block, p.off + 4, none⟩ = some x4 := by
  obtain ⟨ad, rfl, hb, hc⟩ := h.cell0 hk rfl
  exact ⟨ad, _, rfl, rfl, by rw [block_of_add]; exact hb, hc, h.cellS (j := 0) hk rfl, h.cellS (j := 1) hk rfl, h.cellS (j := 2) hk rfl, h.cellS (j := 3) hk rfl⟩

set_option maxRecDepth 100000 in
set_option maxHeartbeats 1600000 in
theorem play_walk (s : Int) (A : Option Addr) (n c : Nat) (ds : List Dn) (w : World) (hE : Sl w w.heap.size 5 A (ds.map Dn.row)) (hn : n = ds.length) (hm : n ≤ 1000000) (hs : 0 ≤ s ∧ s ≤ 7) :
    Calls Tryd.prog 18 #[.int .i64 s, .slice A n c] w fun e w' => e = .returned (.tuple #[.int .i64 (run s ds), .bool true]) ∧ Below w.heap.size w w' := by
  have HN := Lib.hid hn
  clear hn
  go_enter Tryd.func18, Tryd.ntmps18
  go_wp2
  go_loopw [0, 12] (fun x i wr => ∃ (k : Nat) (t : Int), k ≤ n ∧ i = .int .i64 k ∧ x = .int .i64 t ∧ Hid (run s (ds.take k) = t) ∧ Below w.heap.size w wr) (fun _ i _ => n - (intOf i).toNat)
  case atStart => exact ⟨0, s, Nat.zero_le _, rfl, rfl, rfl, Below.refl _ _⟩
  case round =>
  obtain ⟨k, t, hk, rfl, rfl, ht, hb⟩ := hrel
  by_cases hlt : k < n
  · obtain ⟨x, hx⟩ : ∃ x, ds[k]? = some x := ⟨_, List.getElem?_eq_getElem (by have := HN.out; omega)⟩
    obtain ⟨ad, p, rfl, hpa, hpb, e0, e1, e2, e3, e4⟩ := (hE.below hb).five (k := k) (x0 := .int .i64 x.c) (x1 := .bool x.link) (x2 := .bool x.fault) (x3 := .bool x.still) (x4 := .bool x.done) (by rw [List.getElem?_map, hx]; rfl)
    have hs := hb.size
    have hl1 : p.block < wr.heap.size := by omega
    have htb : 0 ≤ t ∧ t ≤ 7 := by rw [← ht.out]; exact run_in ‹_› _
    have hnx := fun W => next_walk t x.c x.link x.fault x.still x.done W htb
    obtain ⟨t', ht'⟩ : ∃ t', nxD t x = t' := ⟨_, rfl⟩
    have hnx' : ∀ W, Calls Tryd.prog 11 #[.int .i64 t, .agg #[.int .i64 x.c, .bool x.link, .bool x.fault, .bool x.still, .bool x.done]] W fun e w' => e = .returned (.tuple #[.int .i64 t', .nilIface]) ∧ Below W.heap.size W w' := fun W => by rw [← ht']; exact hnx W
    have HNX := hide hnx'
    have hst : Hid (run s (ds.take (k + 1)) = t') := by
      show _ = _
      rw [run_take s ds k x hx, ht.out, ht']
    clear hnx hnx' ht' hx ht htb
    have hb2 := hb.alloc hs (.cells #[.int .i64 x.c, .bool x.link, .bool x.fault, .bool x.still, .bool x.done] 23)
    go_wp2_with fail
    refine ((unhide HNX) _).mono ?_
    rintro e w2 ⟨rfl, hb3⟩
    have hb4 := hb2.trans (hb3.mono hb2.size)
    go_wp2
    go_roundw
    case rel => exact ⟨k + 1, t', by omega, by go_num, rfl, hst, hb4⟩
    case measure => simp [intOf]; omega
  · obtain rfl : k = n := by omega
    have hfin : run s ds = t := by
      rw [← ht.out, HN.out, List.take_length]
    have HF := Lib.hid hfin
    clear hfin ht
    go_wp2
    go_ret2
    exact ⟨by rw [HF.out]; rfl, hb⟩

end Go.Proofs.YtnoihjjenceeaaaDoor
