/- The walks of a curve's At, and of the reference's. -/
import Derived.Test.YtmmplfokidnpnaaMValue
namespace Go.Proofs.Ytmmplfokidnpnaa
open Go.RowKit

theorem atM (X Y : List Int) (ax ay : Addr) (n cX cY : Nat) (x : Int) (hx : -4294967296 ≤ x ∧ x ≤ 4294967296) (w : World) (SX : Sl w w.heap.size 1 (some ax) (rows X)) (SY : Sl w w.heap.size 1 (some ay) (rows Y)) (hn : n = X.length) (ok : CvOk X Y) :
    Calls Try.prog 69 #[.agg #[.slice (some ax) n cX, .slice (some ay) n cY], .int .i64 x] w fun e w' => e = .returned (.int .i64 (cvAt X Y x)) ∧ Below w.heap.size w w' := by
  have hb0 := (Below.refl w.heap.size w).alloc (Nat.le_refl _) (.cells #[.slice (some ax) n cX, .slice (some ay) n cY] 24)
  have sx0 := (SX.alloc (Nat.le_refl _) (.cells #[.slice (some ax) n cX, .slice (some ay) n cY] 24)).more (show w.heap.size ≤ (w.alloc (.cells #[.slice (some ax) n cX, .slice (some ay) n cY] 24)).heap.size by simp)
  have sy0 := (SY.alloc (Nat.le_refl _) (.cells #[.slice (some ax) n cX, .slice (some ay) n cY] 24)).more (show w.heap.size ≤ (w.alloc (.cells #[.slice (some ax) n cX, .slice (some ay) n cY] 24)).heap.size by simp)
  have hva := fun (W : World) (h1 : Sl W W.heap.size 1 (some ax) (rows X)) (h2 : Sl W W.heap.size 1 (some ay) (rows Y)) => valueM X Y ax ay n cX cY x hx W h1 h2 hn ok
  have bd := ok.bd 0 (by have := ok.two; omega)
  have bl := ok.bd (X.length - 1) (by have := ok.two; omega)
  have ba := at_bd ok x
  obtain ⟨a, ha⟩ : ∃ a, cvAt X Y x = a := ⟨_, rfl⟩
  simp only [ha] at hva
  rw [ha] at ba ⊢
  have ba1 : -1073741824 ≤ a := by omega
  have ba2 : a ≤ 1073741824 := by omega
  have HVA := hide hva
  clear hva bd bl ba hx hn ok
  go_enter Try.func69, Try.ntmps69
  go_wp2_with fail
  refine ((unhide HVA) _ sx0 sy0).mono ?_
  rintro e w1 ⟨num, den, rfl, hden, hdiv, hn1, hn2, hb1⟩
  have hne : ¬ den = 0 := by omega
  have hne2 : ¬ den = -1 := by omega
  go_wp2
  go_ret
  exact ⟨rfl, hb0.trans (hb1.mono hb0.size)⟩

theorem atR (X Y : List Int) (ax ay : Addr) (n cX cY : Nat) (x : Int) (hx : -4294967296 ≤ x ∧ x ≤ 4294967296) (w : World) (SX : Sl w w.heap.size 1 (some ax) (rows X)) (SY : Sl w w.heap.size 1 (some ay) (rows Y)) (hn : n = X.length) (ok : CvOk X Y) :
    Calls Try.prog 47 #[.agg #[.slice (some ax) n cX, .slice (some ay) n cY], .int .i64 x] w fun e w' => e = .returned (.int .i64 (cvAt X Y x)) ∧ Below w.heap.size w w' := by
  have hb0 := (Below.refl w.heap.size w).alloc (Nat.le_refl _) (.cells #[.slice (some ax) n cX, .slice (some ay) n cY] 24)
  have sx0 := (SX.alloc (Nat.le_refl _) (.cells #[.slice (some ax) n cX, .slice (some ay) n cY] 24)).more (show w.heap.size ≤ (w.alloc (.cells #[.slice (some ax) n cX, .slice (some ay) n cY] 24)).heap.size by simp)
  have sy0 := (SY.alloc (Nat.le_refl _) (.cells #[.slice (some ax) n cX, .slice (some ay) n cY] 24)).more (show w.heap.size ≤ (w.alloc (.cells #[.slice (some ax) n cX, .slice (some ay) n cY] 24)).heap.size by simp)
  have hva := fun (W : World) (h1 : Sl W W.heap.size 1 (some ax) (rows X)) (h2 : Sl W W.heap.size 1 (some ay) (rows Y)) => valueR X Y ax ay n cX cY x hx W h1 h2 hn ok
  have bd := ok.bd 0 (by have := ok.two; omega)
  have bl := ok.bd (X.length - 1) (by have := ok.two; omega)
  have ba := at_bd ok x
  obtain ⟨a, ha⟩ : ∃ a, cvAt X Y x = a := ⟨_, rfl⟩
  simp only [ha] at hva
  rw [ha] at ba ⊢
  have ba1 : -1073741824 ≤ a := by omega
  have ba2 : a ≤ 1073741824 := by omega
  have HVA := hide hva
  clear hva bd bl ba hx hn ok
  go_enter Try.func47, Try.ntmps47
  go_wp2_with fail
  refine ((unhide HVA) _ sx0 sy0).mono ?_
  rintro e w1 ⟨num, den, rfl, hden, hdiv, hn1, hn2, hb1⟩
  have hne : ¬ den = 0 := by omega
  have hne2 : ¬ den = -1 := by omega
  go_wp2
  go_ret
  exact ⟨rfl, hb0.trans (hb1.mono hb0.size)⟩

theorem AtM (X Y : List Int) (ax ay : Addr) (n cX cY : Nat) (x : Int) (hx : -4294967296 ≤ x ∧ x ≤ 4294967296) (w : World) (SX : Sl w w.heap.size 1 (some ax) (rows X)) (SY : Sl w w.heap.size 1 (some ay) (rows Y)) (hn : n = X.length) (ok : CvOk X Y) (hc : cvCode X Y = 0) :
    Calls Try.prog 44 #[.agg #[.slice (some ax) n cX, .slice (some ay) n cY], .int .i64 x] w fun e w' => e = .returned (.tuple #[.int .i64 (cvAt X Y x), .nilIface]) ∧ Below w.heap.size w w' := by
  have hb0 := (Below.refl w.heap.size w).alloc (Nat.le_refl _) (.cells #[.slice (some ax) n cX, .slice (some ay) n cY] 24)
  have g0 := Blk.new w 24 #[.slice (some ax) n cX, .slice (some ay) n cY]
  have sx0 := (SX.alloc (Nat.le_refl _) (.cells #[.slice (some ax) n cX, .slice (some ay) n cY] 24)).more (show w.heap.size ≤ (w.alloc (.cells #[.slice (some ax) n cX, .slice (some ay) n cY] 24)).heap.size by simp)
  have sy0 := (SY.alloc (Nat.le_refl _) (.cells #[.slice (some ax) n cX, .slice (some ay) n cY] 24)).more (show w.heap.size ≤ (w.alloc (.cells #[.slice (some ax) n cX, .slice (some ay) n cY] 24)).heap.size by simp)
  have hva := fun (W : World) (h1 : Sl W W.heap.size 1 (some ax) (rows X)) (h2 : Sl W W.heap.size 1 (some ay) (rows Y)) => atM X Y ax ay n cX cY x hx W h1 h2 hn ok
  have hck := fun (W : World) (h1 : Sl W W.heap.size 1 (some ax) (rows X)) (h2 : Sl W W.heap.size 1 (some ay) (rows Y)) => cvchk_walk X Y (some ax) (some ay) n n cX cY W h1 h2 hn (by rw [hn, ok.len])
  simp only [hc, errV_zero] at hck
  have HVA := hide hva
  have HCK := hide hck
  clear hva hck hx hn ok hc
  go_enter Try.func44, Try.ntmps44
  go_wp2_with fail
  refine ((unhide HCK) _ sx0 sy0).mono ?_
  rintro e w1 ⟨rfl, hb1⟩
  have g1 := g0.below hb1 g0.lt
  have sx1 := (sx0.below hb1).more hb1.size
  have sy1 := (sy0.below hb1).more hb1.size
  obtain ⟨y0, y1⟩ := g1.c2
  have l1 := g1.lt
  go_wp2_with fail
  refine ((unhide HVA) _ sx1 sy1).mono ?_
  rintro e w2 ⟨rfl, hb2⟩
  have hbA := hb0.trans (hb1.mono hb0.size)
  go_wp2
  go_ret2
  exact ⟨rfl, hbA.trans (hb2.mono hbA.size)⟩
end Go.Proofs.Ytmmplfokidnpnaa
