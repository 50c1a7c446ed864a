/- The walk of layer 24's statements' 'drive'. -/
import Derived.Test.YtgnojdiecgfeaaaState
import Derived.Test.YtgnojdiecgfeaaaOpenG
namespace Go.Proofs.Ytgnojdiecgfeaaa
open Go.RowKit

def mixI (m : Nat) (y x : Nat → Int) : Nat → Int := fun l => if l < m then y l else x l
theorem mixI_zero (y x : Nat → Int) : mixI 0 y x = x := by funext l; simp [mixI]
theorem mixI_at (m : Nat) (y x : Nat → Int) : mixI m y x m = x m := by simp [mixI]
theorem cellsD_f (f o : Nat → Int) (p d t : Int) {m : Nat} (hm : m < 3) : (cellsD f o p d t)[m * 2]? = some (.int .i64 (f m)) := by
  match m, hm with
  | 0, _ => rfl
  | 1, _ => rfl
  | 2, _ => rfl
theorem cellsD_o (f o : Nat → Int) (p d t : Int) {m : Nat} (hm : m < 3) : (cellsD f o p d t)[m * 2 + 1]? = some (.int .i64 (o m)) := by
  match m, hm with
  | 0, _ => rfl
  | 1, _ => rfl
  | 2, _ => rfl
theorem cellsD_set (f o f' o' : Nat → Int) (p d t : Int) {m : Nat} (hm : m < 3) : ((cellsD (mixI m f' f) (mixI m o' o) p d t).setIfInBounds (m * 2) (.int .i64 (f' m))).setIfInBounds (m * 2 + 1) (.int .i64 (o' m)) = cellsD (mixI (m + 1) f' f) (mixI (m + 1) o' o) p d t := by
  match m, hm with
  | 0, _ => simp [cellsD, mixI]
  | 1, _ => simp [cellsD, mixI]
  | 2, _ => simp [cellsD, mixI]
theorem cellsD_fs (f o : Nat → Int) (p d t : Int) (u : Value) {m : Nat} (hm : m < 3) : ((cellsD f o p d t).setIfInBounds (m * 2) u)[m * 2]? = some u := by
  match m, hm with
  | 0, _ => simp [cellsD]
  | 1, _ => simp [cellsD]
  | 2, _ => simp [cellsD]
theorem cellsD_fo (f o : Nat → Int) (p d t : Int) (u : Value) {m : Nat} (hm : m < 3) : ((cellsD f o p d t).setIfInBounds (m * 2) u)[m * 2 + 1]? = some (.int .i64 (o m)) := by
  match m, hm with
  | 0, _ => simp [cellsD]
  | 1, _ => simp [cellsD]
  | 2, _ => simp [cellsD]
theorem cellsD_f6 (f o : Nat → Int) (p d t : Int) (u : Value) {m : Nat} (hm : m < 3) : ((cellsD f o p d t).setIfInBounds (m * 2) u)[6]? = some (.int .i64 p) := by
  match m, hm with
  | 0, _ => simp [cellsD]
  | 1, _ => simp [cellsD]
  | 2, _ => simp [cellsD]
theorem cellsD_mix3 (f o f' o' : Nat → Int) (p d t : Int) : cellsD (mixI 3 f' f) (mixI 3 o' o) p d t = cellsD f' o' p d t := rfl
def dvF (f : Nat → Int) (per : Int) : Nat → Int := fun l => clipI (f l) 0 per
def dvO (f o : Nat → Int) (per : Int) : Nat → Int := fun l => clipI (o l) (dvF f per l) per
theorem clipI_bds {n lo hi : Int} (h : lo ≤ hi) : lo ≤ clipI n lo hi ∧ clipI n lo hi ≤ hi := by
  unfold clipI; split
  · omega
  · split <;> omega
theorem load_drive {w : World} {g : Nat} {t : TypeId} {a b c d e f i j k : Value} (h : Blk w g t #[a, b, c, d, e, f, i, j, k]) : (loadVar 53 ⟨g, 0, none⟩).run Try.prog w = .ok (.agg #[a, b, c, d, e, f, i, j, k]) w := by
  obtain ⟨k0, k1, k2, k3, k4, k5, k6, k7, k8⟩ := h.c9
  simp [go_sem, k0, k1, k2, k3, k4, k5, k6, k7, k8]

set_option maxRecDepth 100000 in
set_option maxHeartbeats 3200000 in
theorem drive_walk (f o : Nat → Int) (p0 d0 t0 period dead : Int) (w : World) : Calls Try.prog 36 #[.agg (cellsD f o p0 d0 t0), .int .i64 period, .int .i64 dead] w fun e w' =>
    e = .returned (.agg (cellsD (dvF f (clipI period 64 4096)) (dvO f o (clipI period 64 4096)) (clipI period 64 4096) (clipI dead 1 1024) (clipI t0 0 (clipI period 64 4096)))) ∧ Below w.heap.size w w' := by
  obtain ⟨per, hper⟩ : ∃ p, clipI period 64 4096 = p := ⟨_, rfl⟩
  obtain ⟨dd, hdd⟩ : ∃ p, clipI dead 1 1024 = p := ⟨_, rfl⟩
  have hpb : 64 ≤ per ∧ per ≤ 4096 := by rw [← hper]; exact clipI_bds (by omega)
  rw [hper, hdd]
  have c1 := fun W => clip_b period 64 4096 (by omega) W
  have c2 := fun W => clip_b dead 1 1024 (by omega) W
  have c3 := fun W => clip_b t0 0 per (by omega) W
  rw [hper] at c1
  rw [hdd] at c2
  obtain ⟨tt, htt⟩ : ∃ p, clipI t0 0 per = p := ⟨_, rfl⟩
  rw [htt] at c3 ⊢
  have C1 := hide c1
  have C2 := hide c2
  have C3 := hide c3
  clear c1 c2 c3 hper hdd htt
  have h0 := (Blk.new w 53 (cellsD f o p0 d0 t0)).alloc (.cells #[.int .i64 0, .int .i64 0, .int .i64 0, .int .i64 0, .int .i64 0, .int .i64 0, .int .i64 0, .int .i64 0, .int .i64 0] 53)
  have h1 := Blk.new' (w := w.alloc (.cells (cellsD f o p0 d0 t0) 53)) (t := 53) (cs := #[.int .i64 0, .int .i64 0, .int .i64 0, .int .i64 0, .int .i64 0, .int .i64 0, .int .i64 0, .int .i64 0, .int .i64 0]) (g := w.heap.size + 1) (by simp)
  have hb := ((Below.refl w.heap.size w).alloc (Nat.le_refl _) (.cells (cellsD f o p0 d0 t0) 53)).alloc (by simp) (.cells #[.int .i64 0, .int .i64 0, .int .i64 0, .int .i64 0, .int .i64 0, .int .i64 0, .int .i64 0, .int .i64 0, .int .i64 0] 53)
  unfold cellsD at h0 h1 hb ⊢
  go_enter Try.func36, Try.ntmps36
  go_wp2_with fail
  refine ((unhide C1) _).mono ?_
  rintro e w' ⟨rfl, rfl⟩
  go_wp2_with fail
  refine ((unhide C2) _).mono ?_
  rintro e w' ⟨rfl, rfl⟩
  go_wp2_with fail
  refine ((unhide C3) _).mono ?_
  rintro e w' ⟨rfl, rfl⟩
  have h0' := (Blk.new w 53 (cellsD f o per dd tt)).alloc (.cells #[.int .i64 0, .int .i64 0, .int .i64 0, .int .i64 0, .int .i64 0, .int .i64 0, .int .i64 0, .int .i64 0, .int .i64 0] 53)
  have h1' := Blk.new' (w := w.alloc (.cells (cellsD f o per dd tt) 53)) (t := 53) (cs := #[.int .i64 0, .int .i64 0, .int .i64 0, .int .i64 0, .int .i64 0, .int .i64 0, .int .i64 0, .int .i64 0, .int .i64 0]) (g := w.heap.size + 1) (by simp)
  have hb' := ((Below.refl w.heap.size w).alloc (Nat.le_refl _) (.cells (cellsD f o per dd tt) 53)).alloc (by simp) (.cells #[.int .i64 0, .int .i64 0, .int .i64 0, .int .i64 0, .int .i64 0, .int .i64 0, .int .i64 0, .int .i64 0, .int .i64 0] 53)
  clear h0 h1 hb C1 C2 C3
  go_wp2
  go_loopw [20] (fun i wr => ∃ m : Nat, m ≤ 3 ∧ i = .int .i64 m ∧ Blk wr w.heap.size 53 (cellsD (mixI m (dvF f per) f) (mixI m (dvO f o per) o) per dd tt) ∧ Blk wr (w.heap.size + 1) 53 #[.int .i64 0, .int .i64 0, .int .i64 0, .int .i64 0, .int .i64 0, .int .i64 0, .int .i64 0, .int .i64 0, .int .i64 0] ∧ Below w.heap.size w wr) (fun i _ => 3 - (intOf i).toNat)
  case atStart => exact ⟨0, by omega, rfl, by rw [mixI_zero, mixI_zero]; exact h0', h1', hb'⟩
  case round =>
  clear h0' h1' hb'
  obtain ⟨m, hm, rfl, h0, h1, hb⟩ := hrel
  by_cases hm3 : (m : Int) < 3
  · have hmn : m < 3 := by omega
    have hyF : wr.cell? ⟨w.heap.size, m * 2, none⟩ = some (.int .i64 (f m)) := by rw [h0.cell, cellsD_f _ _ _ _ _ hmn, mixI_at]
    have hyO : wr.cell? ⟨w.heap.size, m * 2 + 1, none⟩ = some (.int .i64 (o m)) := by rw [h0.cell, cellsD_o _ _ _ _ _ hmn, mixI_at]
    have hy6 : wr.cell? ⟨w.heap.size, 6, none⟩ = some (.int .i64 per) := h0.cell 6
    have hfF := h0.frozen (m * 2)
    have hfO := h0.frozen (m * 2 + 1)
    obtain ⟨f1, hf1⟩ : ∃ f1, clipI (f m) 0 per = f1 := ⟨_, rfl⟩
    have hf1b : 0 ≤ f1 ∧ f1 ≤ per := by rw [← hf1]; exact clipI_bds (by omega)
    obtain ⟨o1, ho1⟩ : ∃ o1, clipI (o m) f1 per = o1 := ⟨_, rfl⟩
    have q1 := fun W => lnk_quiet0 (f m) 0 per (by omega) W
    have q2 := fun W => lnk_quiet0 (o m) f1 per hf1b.2 W
    rw [hf1] at q1
    rw [ho1] at q2
    have HF1 := Lib.hid hf1
    have HO1 := Lib.hid ho1
    have Q1 := hide q1
    have Q2 := hide q2
    clear q1 q2 hf1 ho1
    go_wp2
    refine wp_region_still_tail 12 (by kernel_rfl) (by kernel_rfl) ?_
    simp only [List.take_succ_cons, List.take_zero, List.drop_succ_cons, List.drop_zero]
    repeat still_step
    still_call ((unhide Q1) _)
    repeat still_step
    refine wpStill_nil ?_
    change wpList _ _ _ _ _ wr.drew
    go_wp2
    obtain ⟨wx, hwx⟩ : ∃ wx, (wr.setCell ⟨w.heap.size, m * 2, none⟩ (.int .i64 f1)).drew = wx := ⟨_, rfl⟩
    have h0x : Blk wx w.heap.size 53 ((cellsD (mixI m (dvF f per) f) (mixI m (dvO f o per) o) per dd tt).setIfInBounds (m * 2) (.int .i64 f1)) := by rw [← hwx]; exact (h0.set_ (m * 2) (.int .i64 f1)).drew
    have h1x : Blk wx (w.heap.size + 1) 53 #[.int .i64 0, .int .i64 0, .int .i64 0, .int .i64 0, .int .i64 0, .int .i64 0, .int .i64 0, .int .i64 0, .int .i64 0] := by rw [← hwx]; exact (h1.far (by simp) _).drew
    have hbx : Below w.heap.size w wx := by rw [← hwx]; exact (hb.setCell (by simp) _).drew
    have kF : wx.cell? ⟨w.heap.size, m * 2, none⟩ = some (.int .i64 f1) := (h0x.cell _).trans (cellsD_fs _ _ _ _ _ _ hmn)
    have kO : wx.cell? ⟨w.heap.size, m * 2 + 1, none⟩ = some (.int .i64 (o m)) := by rw [h0x.cell, cellsD_fo _ _ _ _ _ _ hmn, mixI_at]
    have k6 : wx.cell? ⟨w.heap.size, 6, none⟩ = some (.int .i64 per) := (h0x.cell _).trans (cellsD_f6 _ _ _ _ _ _ hmn)
    have kfO := h0x.frozen (m * 2 + 1)
    rw [hwx]
    clear hwx h0 h1 hb hyF hyO hy6 hfF hfO
    refine wp_region_still_tail 17 (by kernel_rfl) (by kernel_rfl) ?_
    simp only [List.take_succ_cons, List.take_zero, List.drop_succ_cons, List.drop_zero]
    repeat still_step
    still_call ((unhide Q2) _)
    repeat still_step
    refine wpStill_nil ?_
    change wpList _ _ _ _ _ wx.drew
    go_wp2
    go_roundw
    case rel =>
      refine ⟨m + 1, by omega, by go_num, ?_, (h1x.far (by simp <;> omega) _).drew, (hbx.setCell (by simp <;> omega) _).drew⟩
      have h4 := h0x.set_ (m * 2 + 1) (.int .i64 o1)
      have e4 := cellsD_set f o (dvF f per) (dvO f o per) per dd tt hmn
      rw [show dvF f per m = f1 from HF1.out, show dvO f o per m = o1 from (congrArg (fun z => clipI (o m) z per) HF1.out).trans HO1.out] at e4
      rw [e4] at h4
      exact h4.drew
    case measure => simp [intOf]; omega
  · obtain rfl : m = 3 := by omega
    rw [cellsD_mix3] at h0
    obtain ⟨y0, y1, y2, y3, y4, y5, y6, y7, y8⟩ := h0.c9
    obtain ⟨z0, z1, z2, z3, z4, z5, z6, z7, z8⟩ := h1.c9
    have fz0 := h1.frozen 0
    have fz1 := h1.frozen 1
    have fz2 := h1.frozen 2
    have fz3 := h1.frozen 3
    have fz4 := h1.frozen 4
    have fz5 := h1.frozen 5
    have fz6 := h1.frozen 6
    have fz7 := h1.frozen 7
    have fz8 := h1.frozen 8
    go_wp2
    refine bodyPost_ret (ret_cell rfl rfl (load_drive (((((((((h1.set_ 0 _).set_ 1 _).set_ 2 _).set_ 3 _).set_ 4 _).set_ 5 _).set_ 6 _).set_ 7 _).set_ 8 _))) rfl ⟨rfl, ?_⟩
    exact (((((((((hb.setCell (by simp <;> omega) _).setCell (by simp <;> omega) _).setCell (by simp <;> omega) _).setCell (by simp <;> omega) _).setCell (by simp <;> omega) _).setCell (by simp <;> omega) _).setCell (by simp <;> omega) _).setCell (by simp <;> omega) _).setCell (by simp <;> omega) _)

end Go.Proofs.Ytgnojdiecgfeaaa
