/- The walk of the reference's Words. -/
import Derived.Test.YtnoihjjenceeaaaDoorDRW
import Derived.Test.YtnoihjjenceeaaaDoorDSmall
import Derived.Deep.AppendLies
namespace Go.Proofs.YtnoihjjenceeaaaDoor
open Go.RowKit
theorem own_shape {w : World} {B : Nat} {e : TypeId} {s n : Nat} {v : Value} {xs : List Value} (h : w.ownsRow B e s v n xs) : ∃ A c, v = .slice A n c := by
  rcases h.2 with ⟨rfl, rfl⟩ | ⟨g, cap, cur, rfl, _⟩
  · exact ⟨_, _, rfl⟩
  · exact ⟨_, _, rfl⟩
theorem own_lit {w : World} {B : Nat} {e : TypeId} {s n : Nat} {v : Value} {xs : List Value} (h : w.ownsRow B e s v n xs) (hn : 0 < n) : ∃ g c, v = .slice (some ⟨g, 0, none⟩) n c := by
  rcases h.2 with ⟨_, rfl⟩ | ⟨g, cap, cur, rfl, _⟩
  · omega
  · exact ⟨_, _, rfl⟩
theorem any_take {F : List Int} {N f : Int} {q : Nat} (h : F[q]? = some f) : (F.take (q + 1)).any (· == N) = ((F.take q).any (· == N) || (f == N)) := by
  have hk := List.getElem?_eq_some_iff.1 h
  rw [List.take_succ_eq_append_getElem hk.1, hk.2]
  simp
theorem own_blk {w : World} {B g n : Nat} {e : TypeId} {cs : List Value} (h : Blk w g e cs.toArray) (hB : B ≤ g) (hn : cs.length = n) (hm : n ≤ maxLen) : w.ownsRow B e 1 (.slice (some ⟨g, 0, none⟩) n n) n cs :=
  ⟨by omega, .inr ⟨g, n, cs.toArray, rfl, hB, h, Nat.le_refl _, hm, by simp [hn], by simp [← hn]⟩⟩
theorem flat1 (xs : List Value) : (xs.map fun x => [x]).flatten = xs := by
  induction xs with
  | nil => rfl
  | cons x l ih => simp [ih]
/-- The values of an own row, one by one. -/
theorem own_sl {w : World} {B n : Nat} {e : TypeId} {A : Option Addr} {c : Nat} {xs : List Value} (h : w.ownsRow B e 1 (.slice A n c) n xs) : Sl w w.heap.size 1 A (xs.map fun x => [x]) := by
  have hf := flat1 xs
  obtain ⟨A', c', hv, hS, _⟩ := Sl.of_own (rs := xs.map fun x => [x]) (size := 1) (by rw [hf]; exact h) (by simp) (by have := h.1; simp; omega)
  injection hv with v1 v2 v3
  subst v1
  exact hS
theorem sintInfo : (Tryd.prog.info? 34).map (fun i => (i.zero, i.size, i.bytes)) = some (some (.slice none 0 0), 1, 24) := by kernel_rfl
theorem app_zero (W : World) (ty : TypeId) (g : Nat) (A : Option Addr) (c : Nat) : (Builtin.append_ #[34, 34] ty #[.slice (some ⟨g, 0, none⟩) 0 0, .slice A 0 c]).run Tryd.prog W = .ok (.slice (some ⟨g, 0, none⟩) 0 0) W := by cases A <;> kernel_rfl
theorem wpList_append_zero {ops : Array Oper} {rest : List Oper} {o : Oper} {a : Act} {w : World} {Q : Exit → Act → World → Prop} (hgd : o.guard = none) (s x : Operand)
    (ho : o.op = .call { callee := .builtin .append, args := #[s, x], argTypes := #[34, 34] }) (g : Nat) (A : Option Addr) (c : Nat) (hs : a.eval s = .slice (some ⟨g, 0, none⟩) 0 0) (hx : a.eval x = .slice A 0 c)
    (h : wpList Tryd.prog ops Q rest (a.put o.dst (.slice (some ⟨g, 0, none⟩) 0 0)) w) : wpList Tryd.prog ops Q (o :: rest) a w :=
  wpList_plain hgd fun _ hK => by
    unfold Oper.wp execOp
    simp only [ho, resolve, invoke, builtin, Sem.run_bind, Sem.run_pure, Result.andThen_ok, List.map_toArray, List.map_cons, List.map_nil, hs, hx, app_zero]
    exact hK _ _ h
theorem rwR_len {a : Nat} (ha : a < 8) {r : Nat} (hr : r < 10) : (rwR a r).1.length = (rwR a r).2.length ∧ (rwR a r).2.length ≤ 8 ∧ (∀ l ∈ (rwR a r).1, l.length = r) ∧ ∀ s ∈ (rwR a r).2, 0 ≤ s ∧ s ≤ 7 := by
  have h := rwR_ok a ha r hr
  simp only [okR, Bool.and_eq_true, beq_iff_eq, decide_eq_true_eq, List.all_eq_true] at h
  exact ⟨h.1.1.1, h.1.1.2, h.1.2, h.2⟩
theorem rwF_hit {a to : Int} {f r k : Nat} {l : List Int} (hk : (rwR a r).2.findIdx? (· == to) = some k) (hl : (rwR a r).1[k]? = some l) : rwF a to (f + 1) r = some l := by
  simp only [rwF, hk, List.getD_eq_getElem?_getD, hl, Option.getD_some]
theorem rwF_miss {a to : Int} {f r : Nat} (hk : ∀ (k : Nat) (s : Int), (rwR a r).2[k]? = some s → (s == to) = false) : rwF a to (f + 1) r = rwF a to f (r + 1) := by
  have : (rwR a r).2.findIdx? (· == to) = none := by
    rw [List.findIdx?_eq_none_iff]
    intro x hx
    obtain ⟨k, hk2⟩ := List.getElem?_of_mem hx
    exact hk k x hk2
  simp only [rwF, this]
theorem find_first {E : List Int} {to : Int} {k : Nat} {s : Int} (hk : E[k]? = some s) (hs : (s == to) = true) (hn : ∀ j x, j < k → E[j]? = some x → (x == to) = false) : E.findIdx? (· == to) = some k := by
  rw [List.findIdx?_eq_some_iff_getElem]
  obtain ⟨h1, h2⟩ := List.getElem?_eq_some_iff.1 hk
  refine ⟨h1, by rw [h2]; exact hs, fun j hj => ?_⟩
  have := hn j E[j] hj (List.getElem?_eq_getElem (by omega))
  simpa using this
/-- What addW does to a table's sizes. -/
theorem addW_len (n : Int) (l : List Int) (p : List (List Int) × List Int) (h : p.1.length = p.2.length) : (addW n l p).1.length = (addW n l p).2.length := by
  unfold addW; split <;> simp [h]
theorem rwS_len (s : Int) (wk : List Int) (p : List (List Int) × List Int) (h : p.1.length = p.2.length) : ∀ j, (rwS s wk p j).1.length = (rwS s wk p j).2.length
  | 0 => h
  | j + 1 => addW_len _ _ _ (rwS_len s wk p h j)
theorem rwK_len (q : List (List Int) × List Int) : ∀ k, (rwK q k).1.length = (rwK q k).2.length
  | 0 => rfl
  | k + 1 => rwS_len _ _ _ (rwK_len q k) 6
theorem addW_up (n : Int) (l : List Int) (p : List (List Int) × List Int) : (addW n l p).2.length ≤ p.2.length + 1 := by unfold addW; split <;> simp
theorem rwS_up (s : Int) (wk : List Int) (p : List (List Int) × List Int) : ∀ j, (rwS s wk p j).2.length ≤ p.2.length + j
  | 0 => Nat.le_refl _
  | j + 1 => by have h1 := addW_up (stp s (cw.getD j 0)) (wk ++ [cw.getD j 0]) (rwS s wk p j); have h2 := rwS_up s wk p j; simp only [rwS]; omega
theorem rwK_up (q : List (List Int) × List Int) : ∀ k, (rwK q k).2.length ≤ 6 * k
  | 0 => Nat.le_refl _
  | k + 1 => by have h1 := rwS_up (q.2.getD k 0) (q.1.getD k []) (rwK q k) 6; have h2 := rwK_up q k; simp only [rwK]; omega
-- WALK
set_option maxRecDepth 100000 in
set_option maxHeartbeats 6400000 in
theorem rwords_walk (an tn : Nat) (w : World) (ha : an < 8) :
    Calls Tryd.prog 16 #[.int .i64 (an : Nat), .int .i64 (tn : Nat)] w fun e w' => Below w.heap.size w w' ∧ ((rwF an tn 9 0 = none ∧ e = .returned (.tuple #[.slice none 0 0, .bool false])) ∨ (∃ l v, rwF an tn 9 0 = some l ∧ e = .returned (.tuple #[v, .bool true]) ∧ w'.ownsRow w.heap.size 3 1 v l.length (iv l))) := by
  obtain ⟨i0, hi, hz0, hz1, hz2⟩ := info_of intInfo
  obtain ⟨j0, hj, hy0, hy1, hy2⟩ := info_of sintInfo
  have hb0 := (((Below.refl w.heap.size w).alloc (Nat.le_refl _) (.cells #[.int .i64 0, .int .i64 2, .int .i64 6, .int .i64 7, .int .i64 15, .int .i64 128] 3)).alloc (by simp) (.cells #[.slice none 0 0] 34)).alloc (by simp <;> omega) (.cells #[.int .i64 (an : Int)] 3)
  have gW0 := ((Blk.new w 3 #[.int .i64 0, .int .i64 2, .int .i64 6, .int .i64 7, .int .i64 15, .int .i64 128]).alloc (.cells #[.slice none 0 0] 34)).alloc (.cells #[.int .i64 (an : Int)] 3)
  have g1 := (Blk.new' (w := w.alloc (.cells #[.int .i64 0, .int .i64 2, .int .i64 6, .int .i64 7, .int .i64 15, .int .i64 128] 3)) (t := 34) (cs := #[.slice none 0 0]) (g := w.heap.size + 1) (by simp)).alloc (.cells #[.int .i64 (an : Int)] 3)
  have g2 := Blk.new' (w := (w.alloc (.cells #[.int .i64 0, .int .i64 2, .int .i64 6, .int .i64 7, .int .i64 15, .int .i64 128] 3)).alloc (.cells #[.slice none 0 0] 34)) (t := 3) (cs := #[.int .i64 (an : Int)]) (g := w.heap.size + 1 + 1) (by simp)
  have T0 : Tb (((w.alloc (.cells #[.int .i64 0, .int .i64 2, .int .i64 6, .int .i64 7, .int .i64 15, .int .i64 128] 3)).alloc (.cells #[.slice none 0 0] 34)).alloc (.cells #[.int .i64 (an : Int)] 3)) (w.heap.size + 1) (.slice (some ⟨w.heap.size + 1, 0, none⟩) 1 1) (.slice (some ⟨w.heap.size + 1 + 1, 0, none⟩) 1 1) [.slice none 0 0] (rwR an 0).1 (rwR an 0).2 :=
    ⟨own_blk (cs := [.slice none 0 0]) g1 (Nat.le_refl _) rfl (by decide), own_blk (cs := [.int .i64 (an : Int)]) g2 (by omega) rfl (by decide), fun i l hl => by
      have hi0 : i = 0 := by
        have := (List.getElem?_eq_some_iff.1 hl).1
        simp [rwR] at this
        omega
      subst hi0
      have : l = [] := by simpa [rwR] using hl.symm
      subst this
      exact ⟨_, rfl, World.ownsRow_nil _ _ _ _, .inl rfl, .inl rfl⟩, .inr (by simp [Value.ownBlock]), .inr (by simp [Value.ownBlock])⟩
  have hnx := fun (s c : Int) (W : World) (hs : 0 ≤ s ∧ s ≤ 7) => rnext_walk s c true false true true W hs
  have HNX := hide hnx
  clear hnx g1 g2
  go_enter Tryd.func16, Tryd.ntmps16
  go_wp2
  go_loopw [7, 8, 25] (fun vW vE i wr => ∃ (r : Nat) (vs : List Value), r ≤ 9 ∧ i = .int .i64 r ∧ Hid (rwF an tn (9 - r) r = rwF an tn 9 0) ∧ Tb wr (w.heap.size + 1) vW vE vs (rwR an r).1 (rwR an r).2 ∧ Blk wr w.heap.size 3 #[.int .i64 0, .int .i64 2, .int .i64 6, .int .i64 7, .int .i64 15, .int .i64 128] ∧ Below w.heap.size w wr) (fun _ _ i _ => 9 - (intOf i).toNat)
  case atStart => exact ⟨0, _, by omega, rfl, (show _ = _ from rfl), T0, gW0, hb0⟩
  case round =>
  clear T0 gW0 hb0
  obtain ⟨r, vs, hr, rfl, hF, T, gW, hb⟩ := hrel
  obtain ⟨wo, rfl⟩ : ∃ wo : World, wo = wr := ⟨_, rfl⟩
  by_cases hr9 : r < 9
  case neg =>
    obtain rfl : r = 9 := by omega
    have hnone : rwF an tn 9 0 = none := by rw [← hF.out]; rfl
    have HNO := Lib.hid hnone
    clear hnone
    go_wp2
    go_ret2
    exact ⟨hb, .inl ⟨HNO.out, rfl⟩⟩
  obtain ⟨l1, l2, l3, l4⟩ := rwR_len ha (show r < 10 by omega)
  have hR1 : rwR an (r + 1) = rwK (rwR an r) (rwR an r).2.length := rfl
  have hhit := fun (k : Nat) (l : List Int) (h1 : (rwR an r).2.findIdx? (· == (tn : Int)) = some k) (h2 : (rwR an r).1[k]? = some l) => (show rwF an tn 9 0 = some l by rw [← hF.out, show 9 - r = (9 - (r + 1)) + 1 by omega]; exact rwF_hit h1 h2)
  have hmiss := fun (h : ∀ (k : Nat) (s : Int), (rwR an r).2[k]? = some s → (s == (tn : Int)) = false) => (show rwF an tn (9 - (r + 1)) (r + 1) = rwF an tn 9 0 by rw [← hF.out, show 9 - r = (9 - (r + 1)) + 1 by omega]; exact (rwF_miss h).symm)
  obtain ⟨q, hq⟩ : ∃ q, rwR an r = q := ⟨_, rfl⟩
  rw [hq] at T l1 l2 l3 l4 hR1 hhit hmiss
  obtain ⟨Ls, E⟩ := q
  simp only at T l1 l2 l3 l4 hR1 hhit hmiss
  obtain ⟨n, hn⟩ : ∃ n, E.length = n := ⟨_, rfl⟩
  obtain ⟨TW, TE, TL, TD⟩ := T
  rw [l1, hn] at TW
  rw [hn] at TE l2 hR1
  have hLn : Ls.length = n := by rw [l1, hn]
  obtain ⟨AW, cW, rfl⟩ := own_shape TW
  obtain ⟨AE, cE, rfl⟩ := own_shape TE
  have SE := own_sl TE
  have SW := own_sl TW
  have EL : ∀ k, k < n → ∃ s, E[k]? = some s ∧ (0 ≤ s ∧ s ≤ 7) := fun k hk => ⟨E[k]'(by omega), List.getElem?_eq_getElem (by omega), l4 _ (List.getElem_mem _)⟩
  have LL : ∀ k, k < n → ∃ l, Ls[k]? = some l ∧ l.length = r := fun k hk => ⟨Ls[k]'(by omega), List.getElem?_eq_getElem (by omega), l3 _ (List.getElem_mem _)⟩
  have HEL := hide EL
  have HLL := hide LL
  have HTL := hide TL
  have HHIT := hide hhit
  have HMISS := hide hmiss
  have HR1 := Lib.hid hR1
  have HN := Lib.hid hn
  have HLN := Lib.hid hLn
  clear EL LL TL hhit hmiss hR1 hn hLn l1 l3 l4 hq hF TD
  go_wp2
  go_loopw [29] (fun i wx => ∃ k : Nat, k ≤ n ∧ i = .int .i64 k ∧ Hid (∀ (j : Nat) (x : Int), j < k → E[j]? = some x → (x == (tn : Int)) = false) ∧ wx = wo) (fun i _ => n - (intOf i).toNat)
  case atStart => exact ⟨0, Nat.zero_le _, rfl, (fun j x h => by omega), rfl⟩
  case round =>
  obtain ⟨k, hk, rfl, hno, hw⟩ := hrel
  obtain rfl := hw.symm
  by_cases hkn : k < n
  · obtain ⟨s, hs, hs7⟩ := (unhide HEL) k hkn
    obtain ⟨l, hl, hlr⟩ := (unhide HLL) k hkn
    obtain ⟨v, hv, hown, _⟩ := (unhide HTL) k l hl
    obtain ⟨ad, p, rfl, hpa, hpb, e0⟩ := SE.one (k := k) (x0 := .int .i64 s) (by rw [List.getElem?_map]; unfold iv; rw [List.getElem?_map, hs]; rfl)
    obtain ⟨bd, p2, rfl, hpa2, hpb2, e1⟩ := SW.one (k := k) (x0 := v) (by rw [List.getElem?_map, hv]; rfl)
    by_cases hst : (s == (tn : Int)) = true
    · have HIT := Lib.hid ((unhide HHIT) k l (find_first hs hst hno.out) hl)
      have HOW := Lib.hid (hown.rebase (show w.heap.size ≤ w.heap.size + 1 by omega))
      clear hown hs hl hv hs7 hlr hno
      go_wp2
      go_ret2
      exact ⟨hb, .inr ⟨l, HIT.out, v, rfl, HOW.out⟩⟩
    · have hst2 : (s == (tn : Int)) = false := by simpa using hst
      have hno2 : ∀ (j : Nat) (x : Int), j < k + 1 → E[j]? = some x → (x == (tn : Int)) = false := fun j x hj hx => by
        by_cases hjk : j = k
        · subst hjk
          rw [hs] at hx
          injection hx with hx
          subst hx
          exact hst2
        · exact hno.out j x (by omega) hx
      have HNO2 := Lib.hid hno2
      clear hown hs hl hv hs7 hlr hno hno2 hst
      go_wp2
      go_roundw
      case rel => exact ⟨k + 1, by omega, by go_num, HNO2.out, by trivial⟩
      case measure => simp [intOf]; omega
  · obtain rfl : n = k := by omega
    have HF2 := Lib.hid ((unhide HMISS) (fun j x hx => hno.out j x (by have := (List.getElem?_eq_some_iff.1 hx).1; have := HN.out; omega) hx))
    clear hno hkn hk
    have hlw := gW.lt
    have hbs := hb.size
    go_wp2
    go_loopw [11, 12, 44] (fun uW uE i wx => ∃ (k : Nat) (us : List Value), k ≤ n ∧ i = .int .i64 k ∧ Tb wx wo.heap.size uW uE us (rwK (Ls, E) k).1 (rwK (Ls, E) k).2 ∧ Below wo.heap.size wo wx) (fun _ _ i _ => n - (intOf i).toNat)
    case atStart => exact ⟨0, [], Nat.zero_le _, rfl, Tb.nil wo _, Below.refl _ _⟩
    case round =>
    obtain ⟨k, us, hk, rfl, T, hx⟩ := hrel
    obtain ⟨wx, rfl⟩ : ∃ wx : World, wx = wr := ⟨_, rfl⟩
    by_cases hkn : k < n
    case neg =>
      obtain rfl : n = k := by omega
      rw [← HR1.out] at T
      have hbx := hb.trans (hx.mono hbs)
      have gWx := gW.below hx hlw
      have Tx : Tb wx (w.heap.size + 1) u11 u12 us (rwR an (r + 1)).1 (rwR an (r + 1)).2 := T.base (by omega)
      go_wp2
      go_roundw
      case rel => exact ⟨r + 1, us, by omega, by go_num, HF2.out, Tx, gWx, hbx⟩
      case measure => simp [intOf]; omega
    obtain ⟨s, hs, hs7⟩ := (unhide HEL) k hkn
    obtain ⟨l, hl, hlr⟩ := (unhide HLL) k hkn
    obtain ⟨v, hv, hown, _⟩ := (unhide HTL) k l hl
    have hK1 : rwK (Ls, E) (k + 1) = rwS s l (rwK (Ls, E) k) 6 := by
      show rwS (E.getD k 0) (Ls.getD k []) _ 6 = _
      rw [List.getD_eq_getElem?_getD, List.getD_eq_getElem?_getD, hs, hl]
      rfl
    have hup := rwK_up (Ls, E) k
    obtain ⟨K, hKK⟩ : ∃ K, rwK (Ls, E) k = K := ⟨_, rfl⟩
    rw [hKK] at T hK1 hup
    have hlenK : K.1.length = K.2.length := by rw [← hKK]; exact rwK_len _ k
    obtain ⟨ad, p, hAE, hpa, hpb, e0⟩ := (SE.below hx).one (k := k) (x0 := .int .i64 s) (by rw [List.getElem?_map]; unfold iv; rw [List.getElem?_map, hs]; rfl)
    obtain ⟨bd, p2, hAW, hpa2, hpb2, e1⟩ := (SW.below hx).one (k := k) (x0 := v) (by rw [List.getElem?_map, hv]; rfl)
    have hxs := hx.size
    have hpb3 : p.block < wx.heap.size := by omega
    have HS := Lib.hid (show SE = SE from rfl)
    have HOWO := Lib.hid hown
    have HK1 := Lib.hid hK1
    have HS7 := Lib.hid hs7
    have HLR := Lib.hid hlr
    have HLK := Lib.hid hlenK
    have HUP := Lib.hid hup
    obtain ⟨bd0, p0, hAW0, hpa0, hpb0, e10⟩ := SW.one (k := k) (x0 := v) (by rw [List.getElem?_map, hv]; rfl)
    have HP0 := Lib.hid (And.intro hpa0 (And.intro hpb0 e10))
    have HP2 := HP0
    have HAW := Lib.hid hAW0
    clear hpa0 hpb0 e10 hAW0
    have gWx := gW.below hx hlw
    subst hAE
    clear hs hl hv hs7 hlr hown hK1 hKK hlenK hup hpa2 hpb2 e1 hAW HS
    go_wp2
    clear e0 hpa hpb hpb3
    go_loopw [11, 12, 51] (fun uW uE i wx => ∃ (j : Nat) (us : List Value), j ≤ 6 ∧ i = .int .i64 j ∧ Tb wx wo.heap.size uW uE us (rwS s l K j).1 (rwS s l K j).2 ∧ Below wo.heap.size wo wx) (fun _ _ i _ => 6 - (intOf i).toNat)
    case atStart => exact ⟨0, us, by omega, rfl, T, hx⟩
    case round =>
    clear T hx gWx hxs HP2
    obtain ⟨j, us, hj6, rfl, T, hx⟩ := hrel
    obtain ⟨wx, rfl⟩ : ∃ wx : World, wx = wr := ⟨_, rfl⟩
    have hxs := hx.size
    by_cases hjl : j < 6
    case neg =>
      obtain rfl : j = 6 := by omega
      rw [← HK1.out] at T
      go_wp2
      go_roundw
      case rel => exact ⟨k + 1, us, by omega, by go_num, T, hx⟩
      case measure => simp [intOf]; omega
    have gWx := gW.below hx hlw
    have hcw : wx.cell? ⟨w.heap.size, j, none⟩ = some (.int .i64 (cw.getD j 0)) := by
      rw [gWx.cell]
      match j, hjl with
      | 0, _ => rfl
      | 1, _ => rfl
      | 2, _ => rfl
      | 3, _ => rfl
      | 4, _ => rfl
      | 5, _ => rfl
    have hS1 : rwS s l K (j + 1) = addW (stp s (cw.getD j 0)) (l ++ [cw.getD j 0]) (rwS s l K j) := rfl
    have hlenM : (rwS s l K j).1.length = (rwS s l K j).2.length := rwS_len s l K HLK.out j
    have hupM := rwS_up s l K j
    obtain ⟨M, hM⟩ : ∃ M, rwS s l K j = M := ⟨_, rfl⟩
    rw [hM] at T hS1 hlenM hupM
    obtain ⟨Ms, F⟩ := M
    simp only at T hlenM hupM
    obtain ⟨c, hc⟩ : ∃ c, cw.getD j 0 = c := ⟨_, rfl⟩
    rw [hc] at hcw hS1
    obtain ⟨N, hN⟩ : ∃ N, stp s c = N := ⟨_, rfl⟩
    have hnx := fun W => (unhide HNX) s c W HS7.out
    rw [show nx s (bt c 1) (bt c 2) (bt c 4) (bt c 8) (bt c 128) false true true true = N from hN] at hnx
    rw [hN] at hS1
    have HNX2 := hide hnx
    obtain ⟨m, hm⟩ : ∃ m, F.length = m := ⟨_, rfl⟩
    rw [hm] at hlenM hupM
    have hk48 : m ≤ 54 := by have := HUP.out; omega
    have HS1 := Lib.hid hS1
    have HLM := Lib.hid hlenM
    have HM := Lib.hid hm
    have hbw : w.heap.size < wx.heap.size := by omega
    clear hnx hM hc hN hS1 hlenM hm hupM gWx
    go_wp2_with fail
    refine ((unhide HNX2) _).mono ?_
    rintro e w3 ⟨rfl, hb3⟩
    clear hcw hbw
    replace T := T.below hb3 (Nat.le_refl _)
    replace hx := hx.trans (hb3.mono hxs)
    replace hxs := hx.size
    clear hb3
    obtain ⟨A1, c1, h11⟩ := own_shape T.W
    obtain ⟨A2, c2, h12⟩ := own_shape T.E
    rw [HLM.out] at h11
    rw [HM.out] at h12
    subst h11 h12
    have TE := T.E
    rw [HM.out] at TE
    have SF := own_sl TE
    go_wp2
    go_loopw [18, 61] (fun b i wz => ∃ q : Nat, q ≤ m ∧ i = .int .i64 q ∧ b = .bool ((F.take q).any (· == N)) ∧ wz = w3) (fun _ i _ => m - (intOf i).toNat)
    case atStart => exact ⟨0, Nat.zero_le _, rfl, rfl, rfl⟩
    case round =>
    obtain ⟨q, hq, rfl, rfl, hw⟩ := hrel
    obtain rfl := hw.symm
    by_cases hqm : q < m
    · obtain ⟨f, hf⟩ : ∃ f, F[q]? = some f := ⟨_, List.getElem?_eq_getElem (by have := HM.out; omega)⟩
      have hat := any_take (N := N) hf
      obtain ⟨ad, p, rfl, hpa, hpb, e0⟩ := SF.one (k := q) (x0 := .int .i64 f) (by rw [List.getElem?_map]; unfold iv; rw [List.getElem?_map, hf]; rfl)
      obtain ⟨b, hbb⟩ : ∃ b, (F.take q).any (· == N) = b := ⟨_, rfl⟩
      simp only [hbb]
      rw [hbb] at hat
      have HAT := Lib.hid hat
      clear hat hf hbb TE
      cases b with
      | true =>
        go_wp2
        go_roundw
        case rel => exact ⟨q + 1, by omega, by go_num, by rw [HAT.out]; rfl, by trivial⟩
        case measure => simp [intOf]; omega
      | false =>
        go_wp2
        go_roundw
        case rel => exact ⟨q + 1, by omega, by go_num, by rw [HAT.out, Bool.false_or], by trivial⟩
        case measure => simp [intOf]; omega
    obtain rfl : m = q := by omega
    have hall : F.take m = F := by rw [← HM.out]; exact List.take_length
    rw [hall]
    obtain ⟨b, hbb⟩ : ∃ b, F.any (· == N) = b := ⟨_, rfl⟩
    rw [hbb]
    cases b with
    | true =>
      have had : rwS s l K (j + 1) = (Ms, F) := by rw [HS1.out]; unfold addW; simp only [hbb, if_true]
      have HAD := Lib.hid had
      clear hall hbb had TE
      go_wp2
      go_roundw
      case rel => exact ⟨j + 1, us, by omega, by go_num, by rw [HAD.out]; exact T, hx⟩
      case measure => simp [intOf]; omega
    | false =>
    have had : rwS s l K (j + 1) = (Ms ++ [l ++ [c]], F ++ [N]) := by rw [HS1.out]; unfold addW; simp only [hbb, Bool.false_eq_true, if_false]
    have HAD := Lib.hid had
    clear hall hbb had
    have hv3 := own_below HOWO.out hx (Nat.le_refl _)
    have hmade := World.ownsRow_made (e := 3) (base := w3.heap.size) (size := 1) w3 #[] 0 (Nat.le_refl _) (by decide) rfl
    obtain ⟨hpa2, hpb2, e1'⟩ := HP0.out
    have e1 : w3.cell? p0 = some v := (hx.cell hpb2).trans e1'
    have hpb1 : p0.block < w3.heap.size := by omega
    have hAW := HAW.out
    subst hAW
    have hones : ∀ (x : Int), ∀ u ∈ [Value.int .i64 x], u.oneCell' = true := by
      intro x u hu; simp at hu; subst hu; rfl
    have hlr := HLR.out
    clear e1' TE SF
    by_cases hr0 : r = 0
    · have hl0 : l = [] := List.eq_nil_of_length_eq_zero (by omega)
      subst hl0
      obtain ⟨Av, cv, hvv⟩ := own_shape hv3
      replace hvv : v = .slice Av 0 cv := hvv
      subst hvv
      have hBa := (Below.refl w3.heap.size w3).alloc (Nat.le_refl _) (.cells #[] 3)
      have hBa2 := hBa.alloc hBa.size (.cells #[.int .i64 c] 3)
      have hma := hmade.alloc (.cells #[.int .i64 c] 3)
      clear hmade
      go_wp2_with (first | (at_builtin; refine wpList_append_zero (by rfl) _ _ (by rfl) w3.heap.size Av cv (by rfl) (by rfl) ?_) | (at_builtin; refine wpList_append_lies _ (by rfl) _ _ _ (by rfl) w3.heap.size 3 i0 _ 1 8 Tryd.underlying34 hi hz0 hz1 hz2 (by rfl) (by decide) _ _ _ (by rfl) hma ⟨w3.heap.size + 1, 0, none⟩ 1 1 [.int .i64 c] (by rfl) (by rfl) (news_alloc _ [_] _ _ (by simp)) (hones c) (by decide) (by unfold maxLen; omega) (by omega) (by simp; try omega) (w3.heap.size + 1 + 1) (by simp) ?_; intro gb cb wb hob hgb hatb hltb; have hBb := hBa2.grown hgb (by simp; try omega) (fun g hg => by have := own_ge hma g hg; omega)) | (at_builtin; have hsb := hBb.size; have T4 := T.below hBb (Nat.le_refl _); have TW4 : wb.ownsRow wo.heap.size 34 1 (.slice A1 m c1) m us := (by have h := T4.W; rwa [HLM.out] at h); refine wpList_append_lies _ (by rfl) _ _ _ (by rfl) wo.heap.size 34 j0 _ 1 24 Tryd.underlying56 hj hy0 hy1 hy2 (by rfl) (by decide) _ _ _ (by rfl) (TW4.alloc (.cells #[(.slice (some ⟨gb, 0, none⟩) (0 + 1) cb)] 34)) ⟨wb.heap.size, 0, none⟩ 1 1 [(.slice (some ⟨gb, 0, none⟩) (0 + 1) cb)] (by rfl) (by rfl) (news_alloc _ [_] _ _ (by simp)) (by intro u hu; simp at hu; subst hu; rfl) (by decide) (by unfold maxLen; omega) (by omega) (by simp; try omega) (wb.heap.size + 1) (by simp) ?_; intro gc cc wc hoc hgc hatc hltc; have hsc : wb.heap.size + 1 ≤ wc.heap.size := (by simpa using hgc.size)) | (at_builtin; have hub : wb.ownsRow w3.heap.size 3 1 (.slice (some ⟨gb, 0, none⟩) (0 + 1) cb) (([] : List Int) ++ [c]).length (iv (([] : List Int) ++ [c])) := (by have h := hob; simp only [iv, List.map_append, List.length_append, List.length_singleton, List.map_cons, List.map_nil, List.length_nil] at h ⊢; exact h); have T5 := (T4.alloc (.cells #[(.slice (some ⟨gb, 0, none⟩) (0 + 1) cb)] 34)).addW (by rw [HLM.out]) ((hub.rebase hxs).alloc _) (Dis.far T.W hub (Nat.le_refl _)).2 (Dis.far T.E hub (Nat.le_refl _)).2 hoc hgc (by simpa using hatc); have TE5 : wc.ownsRow wo.heap.size 3 1 (.slice A2 m c2) m (iv F) := (by have h := T5.E; rwa [HM.out] at h); refine wpList_append_lies _ (by rfl) _ _ _ (by rfl) wo.heap.size 3 i0 _ 1 8 Tryd.underlying34 hi hz0 hz1 hz2 (by rfl) (by decide) _ _ _ (by rfl) (TE5.alloc (.cells #[.int .i64 N] 3)) ⟨wc.heap.size, 0, none⟩ 1 1 [.int .i64 N] (by rfl) (by rfl) (news_alloc _ [_] _ _ (by simp)) (hones N) (by decide) (by unfold maxLen; omega) (by omega) (by simp; try omega) (wc.heap.size + 1) (by simp) ?_; intro gd cd wd hod hgd hatd hltd))
      go_roundw
      case rel =>
        have T6 := (T5.alloc (.cells #[.int .i64 N] 3)).addE (x := N) (by rw [HM.out]) hod hgd (by simpa using hatd)
        have hs4 := hx.trans (hBb.mono hxs)
        have hs5 := (hs4.alloc hs4.size (.cells #[(.slice (some ⟨gb, 0, none⟩) (0 + 1) cb)] 34)).grown hgc (by simp; omega) (fun g hg => by have := own_ge T.W g hg; omega)
        have hs6 := (hs5.alloc hs5.size (.cells #[.int .i64 N] 3)).grown hgd (by simp; omega) (fun g hg => by have := own_ge T.E g hg; omega)
        exact ⟨_, _, _, _, _, _, _, ⟨j + 1, by omega, rfl, ⟨us ++ [(.slice (some ⟨gb, 0, none⟩) (0 + 1) cb)], by rw [HAD.out]; exact T6⟩, hs6⟩, rfl, rfl, rfl, rfl, rfl, rfl, by go_num⟩
      case measure => simp [intOf]; omega
    · obtain ⟨gv, cv, rfl⟩ := own_lit hv3 (by omega)
      have hl1 : 1 ≤ l.length := by omega
      have hl9 : l.length ≤ 9 := by omega
      obtain ⟨L, hL⟩ : ∃ L, l.length = L := ⟨_, rfl⟩
      rw [hL] at hv3 e1 hl1 hl9
      have hoL : ∀ u ∈ iv l, u.oneCell' = true := by
        intro u hu
        obtain ⟨x, _, rfl⟩ := List.mem_map.1 hu
        rfl
      have hvc := (hv3.alloc (.cells #[] 3)).cells rfl
      have hBa0 := (Below.refl w3.heap.size w3).alloc (Nat.le_refl _) (.cells #[] 3)
      have HL := Lib.hid hL
      clear hL hlr
      go_wp2_with (first | (at_builtin; refine wpList_append_lies _ (by rfl) _ _ _ (by rfl) w3.heap.size 3 i0 _ 1 8 Tryd.underlying34 hi hz0 hz1 hz2 (by rfl) (by decide) _ _ _ (by rfl) hmade ⟨gv, 0, none⟩ L cv (iv l) (by rfl) (by unfold iv; rw [List.length_map, HL.out]; omega) hvc hoL (by omega) (by unfold maxLen; omega) (by omega) (by simp; try omega) (w3.heap.size + 1) (by simp) ?_; intro ga ca wa hoa hga hata hlta; have hoa2 : wa.ownsRow w3.heap.size 3 1 (.slice (some ⟨ga, 0, none⟩) L ca) L (iv l) := (by simpa using hoa); have hBa := hBa0.grown hga (by simp; try omega) (fun g hg => by have := own_ge hmade g hg; omega); have hsa := hBa.size; simp only [Nat.zero_add]) | (at_builtin; refine wpList_append_lies _ (by rfl) _ _ _ (by rfl) w3.heap.size 3 i0 _ 1 8 Tryd.underlying34 hi hz0 hz1 hz2 (by rfl) (by decide) _ _ _ (by rfl) (hoa2.alloc (.cells #[.int .i64 c] 3)) ⟨wa.heap.size, 0, none⟩ 1 1 [.int .i64 c] (by rfl) (by rfl) (news_alloc _ [_] _ _ (by simp)) (hones c) (by decide) (by unfold maxLen; omega) (by omega) (by simp; try omega) (wa.heap.size + 1) (by simp) ?_; intro gb cb wb hob hgb hatb hltb; have hBb := (hBa.alloc hBa.size (.cells #[.int .i64 c] 3)).grown hgb (by simp; try omega) (fun g hg => by have := own_ge hoa2 g hg; omega)) | (at_builtin; have hsb := hBb.size; have T4 := T.below hBb (Nat.le_refl _); have TW4 : wb.ownsRow wo.heap.size 34 1 (.slice A1 m c1) m us := (by have h := T4.W; rwa [HLM.out] at h); refine wpList_append_lies _ (by rfl) _ _ _ (by rfl) wo.heap.size 34 j0 _ 1 24 Tryd.underlying56 hj hy0 hy1 hy2 (by rfl) (by decide) _ _ _ (by rfl) (TW4.alloc (.cells #[(.slice (some ⟨gb, 0, none⟩) (L + 1) cb)] 34)) ⟨wb.heap.size, 0, none⟩ 1 1 [(.slice (some ⟨gb, 0, none⟩) (L + 1) cb)] (by rfl) (by rfl) (news_alloc _ [_] _ _ (by simp)) (by intro u hu; simp at hu; subst hu; rfl) (by decide) (by unfold maxLen; omega) (by omega) (by simp; try omega) (wb.heap.size + 1) (by simp) ?_; intro gc cc wc hoc hgc hatc hltc; have hsc : wb.heap.size + 1 ≤ wc.heap.size := (by simpa using hgc.size)) | (at_builtin; have hub : wb.ownsRow w3.heap.size 3 1 (.slice (some ⟨gb, 0, none⟩) (L + 1) cb) (l ++ [c]).length (iv (l ++ [c])) := (by have h := hob; simp only [iv, List.map_append, List.length_append, List.length_singleton, List.map_cons, List.map_nil, HL.out] at h ⊢; exact h); have T5 := (T4.alloc (.cells #[(.slice (some ⟨gb, 0, none⟩) (L + 1) cb)] 34)).addW (by rw [HLM.out]) ((hub.rebase hxs).alloc _) (Dis.far T.W hub (Nat.le_refl _)).2 (Dis.far T.E hub (Nat.le_refl _)).2 hoc hgc (by simpa using hatc); have TE5 : wc.ownsRow wo.heap.size 3 1 (.slice A2 m c2) m (iv F) := (by have h := T5.E; rwa [HM.out] at h); refine wpList_append_lies _ (by rfl) _ _ _ (by rfl) wo.heap.size 3 i0 _ 1 8 Tryd.underlying34 hi hz0 hz1 hz2 (by rfl) (by decide) _ _ _ (by rfl) (TE5.alloc (.cells #[.int .i64 N] 3)) ⟨wc.heap.size, 0, none⟩ 1 1 [.int .i64 N] (by rfl) (by rfl) (news_alloc _ [_] _ _ (by simp)) (hones N) (by decide) (by unfold maxLen; omega) (by omega) (by simp; try omega) (wc.heap.size + 1) (by simp) ?_; intro gd cd wd hod hgd hatd hltd))
      go_roundw
      case rel =>
        have T6 := (T5.alloc (.cells #[.int .i64 N] 3)).addE (x := N) (by rw [HM.out]) hod hgd (by simpa using hatd)
        have hs4 := hx.trans (hBb.mono hxs)
        have hs5 := (hs4.alloc hs4.size (.cells #[(.slice (some ⟨gb, 0, none⟩) (L + 1) cb)] 34)).grown hgc (by simp; omega) (fun g hg => by have := own_ge T.W g hg; omega)
        have hs6 := (hs5.alloc hs5.size (.cells #[.int .i64 N] 3)).grown hgd (by simp; omega) (fun g hg => by have := own_ge T.E g hg; omega)
        exact ⟨j + 1, us ++ [(.slice (some ⟨gb, 0, none⟩) (L + 1) cb)], by omega, by go_num, by rw [HAD.out]; exact T6, hs6⟩
      case measure => simp [intOf]; omega
end Go.Proofs.YtnoihjjenceeaaaDoor
