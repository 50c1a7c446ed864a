/- The walk of the statement DeviceNext. -/
import Derived.Test.YtnoihjjenceeaaaDoorDRNext
import Derived.Test.YtnoihjjenceeaaaDoorDLaid
namespace Go.Proofs.YtnoihjjenceeaaaDoor
open Go.RowKit

set_option maxRecDepth 100000 in
set_option maxHeartbeats 1600000 in
theorem deviceNext_walk (s c : Int) (link fault still done : Bool) (w : World) (hc : Cw w) :
    Calls Tryd.prog 3 #[.int .i64 s, .agg #[.int .i64 c, .bool link, .bool fault, .bool still, .bool done]] w fun e w' => e = .returned (.bool true) ∧ Below w.heap.size w w' := by
  have g0 := Blk.new w 23 #[.int .i64 c, .bool link, .bool fault, .bool still, .bool done]
  have hb0 := (Below.refl w.heap.size w).alloc (Nat.le_refl _) (.cells #[.int .i64 c, .bool link, .bool fault, .bool still, .bool done] 23)
  have hc0 := hc.below hb0 hc.lt
  have hs := fun W => rstate_walk s W
  by_cases hk : stOk s = true
  · have hn := fun W => next_walk s c link fault still done W (stOk_iff.1 hk)
    have hr := fun W => rnext_walk s c link fault still done W (stOk_iff.1 hk)
    rw [hk] at hs
    obtain ⟨n, hnn⟩ : ∃ n, nx s (bt c 1) (bt c 2) (bt c 4) (bt c 8) (bt c 128) fault link still done = n := ⟨_, rfl⟩
    simp only [hnn] at hn hr
    have HN := hide hn
    have HR := hide hr
    have HS := hide hs
    clear hn hr hs hnn hk
    go_enter Tryd.func3, Tryd.ntmps3
    go_wp2_with fail
    refine (awakeD_walk _ hc0).mono ?_
    rintro e w1 ⟨rfl, hb1⟩
    have hb2 := hb0.trans (hb1.mono hb0.size)
    have g1 := g0.below hb1 g0.lt
    clear g0 hb0 hc0 hb1
    obtain ⟨x0, x1, x2, x3, x4⟩ := g1.c5
    go_wp2_with fail
    refine ((unhide HN) _).mono ?_
    rintro e w2 ⟨rfl, hb3⟩
    have hb4 := hb2.trans (hb3.mono hb2.size)
    have g2 := g1.below hb3 g1.lt
    clear x0 x1 x2 x3 x4 hb3 hb2 g1
    obtain ⟨x0, x1, x2, x3, x4⟩ := g2.c5
    go_wp2_with fail
    refine ((unhide HS) _).mono ?_
    rintro e w3 ⟨rfl, rfl⟩
    go_wp2_with fail
    refine ((unhide HR) _).mono ?_
    rintro e w4 ⟨rfl, hb5⟩
    have hb6 := hb4.trans (hb5.mono hb4.size)
    go_wp2
    go_ret
    exact ⟨by simp, hb6⟩
  · have hk : stOk s = false := by simpa using hk
    have hn := fun W => next_bad s c link fault still done W hk
    rw [hk] at hs
    have HN := hide hn
    have HS := hide hs
    clear hn hs hk
    go_enter Tryd.func3, Tryd.ntmps3
    go_wp2_with fail
    refine (awakeD_walk _ hc0).mono ?_
    rintro e w1 ⟨rfl, hb1⟩
    have hb2 := hb0.trans (hb1.mono hb0.size)
    have g1 := g0.below hb1 g0.lt
    clear g0 hb0 hc0 hb1
    obtain ⟨x0, x1, x2, x3, x4⟩ := g1.c5
    go_wp2_with fail
    refine ((unhide HN) _).mono ?_
    rintro e w2 ⟨rfl, hb3⟩
    have hb4 := hb2.trans (hb3.mono hb2.size)
    go_wp2_with fail
    refine ((unhide HS) _).mono ?_
    rintro e w3 ⟨rfl, rfl⟩
    go_wp2_with fail
    refine (is_walk 3 _).mono ?_
    rintro e w4 ⟨rfl, rfl⟩
    go_wp2
    go_ret
    exact ⟨rfl, hb4⟩

end Go.Proofs.YtnoihjjenceeaaaDoor
