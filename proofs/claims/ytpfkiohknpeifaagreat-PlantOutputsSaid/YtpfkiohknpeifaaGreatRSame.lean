/- The walks of the reference's AllOff and Same. -/
import Derived.Test.YtpfkiohknpeifaaGreatIgC
namespace Go.Proofs.YtpfkiohknpeifaaGreat.I
open Go.RowKit

set_option maxRecDepth 100000 in
set_option maxHeartbeats 1600000 in
theorem rallOff_walk (per : Int) (b0 b1 b2 b3 b4 b5 : Bool) (A : Option Addr) (n c : Nat) (es : List Ed) (w : World) (hE : Sl w w.heap.size 3 A (es.map Ed.row)) (hn : n = es.length) (hm : n ≤ 1000000) :
    Calls Tryz.prog 55 #[.agg #[.int .i64 per, .bool b0, .bool b1, .bool b2, .bool b3, .bool b4, .bool b5, .slice A n c]] w fun e w' => e = .returned (.bool (allOff b0 b1 b2 b3 b4 b5 es)) ∧ Below w.heap.size w w' := by
  have HN := Lib.hid hn
  clear hn
  have hb := (Below.refl w.heap.size w).alloc (Nat.le_refl _) (.cells #[.int .i64 per, .bool b0, .bool b1, .bool b2, .bool b3, .bool b4, .bool b5, .slice A n c] 51)
  have hS := (hE.below hb).more hb.size
  go_enter Tryz.func55, Tryz.ntmps55
  go_wp2
  go_loop [3] (fun i => i = .int .i64 0 ∨ (i = .int .i64 1 ∧ Hid (b0 = false)) ∨ (i = .int .i64 2 ∧ Hid (b0 = false ∧ b1 = false)) ∨ (i = .int .i64 3 ∧ Hid (b0 = false ∧ b1 = false ∧ b2 = false)) ∨ (i = .int .i64 4 ∧ Hid (b0 = false ∧ b1 = false ∧ b2 = false ∧ b3 = false)) ∨ (i = .int .i64 5 ∧ Hid (b0 = false ∧ b1 = false ∧ b2 = false ∧ b3 = false ∧ b4 = false)) ∨ (i = .int .i64 6 ∧ Hid (b0 = false ∧ b1 = false ∧ b2 = false ∧ b3 = false ∧ b4 = false ∧ b5 = false))) (fun i => 6 - (intOf i).toNat)
  case atStart => exact .inl rfl
  case round =>
    rcases hrel with rfl | ⟨rfl, hA⟩ | ⟨rfl, hA⟩ | ⟨rfl, hA⟩ | ⟨rfl, hA⟩ | ⟨rfl, hA⟩ | ⟨rfl, hA⟩
    · rcases b0
      · go_wp2
        go_round
        case rel => exact .inr (.inl ⟨rfl, (show True from trivial)⟩)
        case measure => simp [intOf]
      · go_wp2
        go_ret
        exact ⟨by simp [allOff], hb⟩
    · rcases b1
      · go_wp2
        go_round
        case rel => exact .inr (.inr (.inl ⟨rfl, ⟨hA.out, trivial⟩⟩))
        case measure => simp [intOf]
      · go_wp2
        go_ret
        exact ⟨by simp [allOff], hb⟩
    · rcases b2
      · go_wp2
        go_round
        case rel => exact .inr (.inr (.inr (.inl ⟨rfl, ⟨hA.out.1, hA.out.2, trivial⟩⟩)))
        case measure => simp [intOf]
      · go_wp2
        go_ret
        exact ⟨by simp [allOff], hb⟩
    · rcases b3
      · go_wp2
        go_round
        case rel => exact .inr (.inr (.inr (.inr (.inl ⟨rfl, ⟨hA.out.1, hA.out.2.1, hA.out.2.2, trivial⟩⟩))))
        case measure => simp [intOf]
      · go_wp2
        go_ret
        exact ⟨by simp [allOff], hb⟩
    · rcases b4
      · go_wp2
        go_round
        case rel => exact .inr (.inr (.inr (.inr (.inr (.inl ⟨rfl, ⟨hA.out.1, hA.out.2.1, hA.out.2.2.1, hA.out.2.2.2, trivial⟩⟩)))))
        case measure => simp [intOf]
      · go_wp2
        go_ret
        exact ⟨by simp [allOff], hb⟩
    · rcases b5
      · go_wp2
        go_round
        case rel => exact .inr (.inr (.inr (.inr (.inr (.inr (⟨rfl, ⟨hA.out.1, hA.out.2.1, hA.out.2.2.1, hA.out.2.2.2.1, hA.out.2.2.2.2, trivial⟩⟩))))))
        case measure => simp [intOf]
      · go_wp2
        go_ret
        exact ⟨by simp [allOff], hb⟩
    · have hz := hA.out
      obtain ⟨z0, z1, z2, z3, z4, z5⟩ := hz
      have HZ : Hid (allOff b0 b1 b2 b3 b4 b5 es = noneOn es) := by show _ = _; rw [z0, z1, z2, z3, z4, z5]; rfl
      clear z0 z1 z2 z3 z4 z5 hA
      go_wp2
      go_loop [4] (fun i => ∃ k : Nat, k ≤ n ∧ i = .int .i64 k ∧ Hid (∀ (j : Nat) x, j < k → es[j]? = some x → x.o = false)) (fun i => n - (intOf i).toNat)
      case atStart => exact ⟨0, Nat.zero_le _, rfl, fun j x h => by omega⟩
      case round =>
        obtain ⟨k, hk, rfl, hg⟩ := hrel
        by_cases hlt : k < n
        · have hkl : k < es.length := by have := HN.out; omega
          obtain ⟨⟨et, es1, eo⟩, he⟩ : ∃ e, es[k]? = some e := ⟨_, List.getElem?_eq_getElem hkl⟩
          obtain ⟨ad, p, rfl, hpa, hpb, e0, e1, e2⟩ := hS.three (k := k) (x := .int .i64 et) (y := .int .i64 es1) (z := .bool eo) (by rw [List.getElem?_map, he]; rfl)
          have HE := Lib.hid he
          clear he
          cases eo
          · go_wp2
            go_round
            case rel =>
              refine ⟨k + 1, by omega, by go_num, fun j x hj hx => ?_⟩
              by_cases hjk : j = k
              · subst hjk
                rw [HE.out] at hx
                injection hx with hx
                subst hx
                rfl
              · exact hg.out j x (by omega) hx
            case measure => simp [intOf]; omega
          · have hno := noneOn_hit HE.out rfl
            have HNO := Lib.hid hno
            clear hno
            go_wp2
            go_ret
            exact ⟨by rw [HZ.out, HNO.out]; rfl, hb⟩
        · have HF : Hid (noneOn es = true) := noneOn_all fun j x hx => hg.out j x (by have := (List.getElem?_eq_some_iff.1 hx).1; have := HN.out; omega) hx
          go_wp2
          go_ret
          exact ⟨by rw [HZ.out, HF.out]; rfl, hb⟩

theorem neq_six (b0 b1 b2 b3 b4 b5 : Bool) (w : World) : (binOp .neq 48 (.agg #[.bool b0, .bool b1, .bool b2, .bool b3, .bool b4, .bool b5]) (.agg #[.bool b0, .bool b1, .bool b2, .bool b3, .bool b4, .bool b5])).run Tryz.prog w = .ok (.bool false) w := by
  cases b0 <;> cases b1 <;> cases b2 <;> cases b3 <;> cases b4 <;> cases b5 <;> kernel_rfl

end Go.Proofs.YtpfkiohknpeifaaGreat.I
