/- The walk of the statement GatesSafe. -/
import Derived.Test.YtgnojdiecgfeaaaPlainO
import Derived.Test.YtgnojdiecgfeaaaRSafe
import Derived.Test.YtgnojdiecgfeaaaOpenH
import Derived.Test.YtgnojdiecgfeaaaSl9
import Derived.ChangeKeysEq
namespace Go.Proofs.Ytgnojdiecgfeaaa
open Go.RowKit

theorem infoGLegS : (Try.prog.info? 47).map (fun i => (i.zero, i.size, i.bytes)) = some (some (.agg #[.int .i64 0, .int .i64 0]), 2, 16) := by kernel_rfl
theorem cellsGLegS : Try.prog.cellsOf 47 = 2 := by kernel_rfl
theorem cellsInt2S : Try.prog.cellsOf 3 = 1 := by kernel_rfl
theorem eq_glegS (a b c d : Int) (w : World) : (Op.equalIn 9999 47 (.agg #[.int .i64 a, .int .i64 b]) (.agg #[.int .i64 c, .int .i64 d])).run Try.prog w = .ok (a == c && b == d) w := by
  have h1 := fun (x y : Int) (w : World) => run_equalIn_int (P := Try.prog) w 9997 3 .i64 .i64 x y Try.underlying3
  simp only [Nat.reduceAdd] at h1
  rw [show (9999 : Nat) = 9998 + 1 from rfl, run_equalIn_struct _ 9998 47 _ _ (by kernel_rfl) (by kernel_rfl)]
  by_cases e0 : a = c <;> by_cases e1 : b = d <;> simp [go_sem, h1, e0, e1]
theorem part2S_0 (a b c d e f : Value) (w : World) : (part 47 #[a, b, c, d, e, f] (0 * 2)).run Try.prog w = .ok (.agg #[a, b]) w := by kernel_rfl
theorem part2S_1 (a b c d e f : Value) (w : World) : (part 47 #[a, b, c, d, e, f] (1 * 2)).run Try.prog w = .ok (.agg #[c, d]) w := by kernel_rfl
theorem part2S_2 (a b c d e f : Value) (w : World) : (part 47 #[a, b, c, d, e, f] (2 * 2)).run Try.prog w = .ok (.agg #[e, f]) w := by kernel_rfl
set_option maxRecDepth 100000 in
theorem neq_legs (y : Nat → Lg) (w : World) : (binOp .neq 48 (.agg (cellsL y)) (.agg (cellsL y))).run Try.prog w = .ok (.bool false) w := by
  obtain ⟨i0, hi, hz0, hz1, hz2⟩ := info_parts infoGLegS
  unfold cellsL
  rw [run_neq_struct, show (10000 : Nat) = 9999 + 1 from rfl, run_equalIn_array _ 9999 _ _ Try.underlying48 hi, cellsGLegS]
  have hr : List.range 3 = [0, 1, 2] := by decide
  rw [hr]
  simp only [Op.eqItems]
  rw [Sem.run_bind, part2S_0]
  simp only [Result.andThen_ok]
  rw [Sem.run_bind, part2S_0]
  simp only [Result.andThen_ok]
  rw [Sem.run_bind, eq_glegS]
  simp only [Result.andThen_ok, beq_self_eq_true, Bool.and_self]
  simp only [Bool.not_true, Bool.false_eq_true, if_false]
  rw [Sem.run_bind, part2S_1]
  simp only [Result.andThen_ok]
  rw [Sem.run_bind, part2S_1]
  simp only [Result.andThen_ok]
  rw [Sem.run_bind, eq_glegS]
  simp only [Result.andThen_ok, beq_self_eq_true, Bool.and_self]
  simp only [Bool.not_true, Bool.false_eq_true, if_false]
  rw [Sem.run_bind, part2S_2]
  simp only [Result.andThen_ok]
  rw [Sem.run_bind, part2S_2]
  simp only [Result.andThen_ok]
  rw [Sem.run_bind, eq_glegS]
  simp
theorem tms_bdQ (per : Int) (on : List Bool) (es : List Ed) (l j : Nat) (h : 0 ≤ per) : 0 ≤ tms per on es l j ∧ tms per on es l j ≤ per := by
  unfold tms
  split
  · have := tmR_bd on es l j per.toNat
    omega
  · omega
theorem rfEnd_es {r : Rq} (h : ∀ l, l < 3 → Lok (r.x l)) {per : Int} (hp : 0 ≤ per) {la : Nat → Int} (hj : ∀ l, l < 3 → (r.at_ l per.toNat).j = min (((per.toNat : Nat) : Int) - la l) 4096) (l : Nat) (hl : l < 3) :
    rfEnd per ⟨onL (fun l => r.at_ l per.toNat), la⟩ l = r.at_ l per.toNat := by
  have h1 := (leg_of (y := fun l => r.at_ l per.toNat) hl (Rq.lok3 h l hl per.toNat).s).2
  have h2 := hj l hl
  have h3 : ((per.toNat : Nat) : Int) = per := by omega
  rw [h3] at h2
  unfold rfEnd
  simp only
  rw [h1, ← h2]

/-- Run, and what the checkers say of its signals. -/
theorem run_safe (per dd tt : Int) (hp1 : 64 ≤ per) (hp2 : per ≤ 4096) (hd1 : 1 ≤ dd) (hd2 : dd ≤ 1024) (ht0 : 0 ≤ tt) (ht1 : tt ≤ per) (F O : Nat → Int) (hfo : ∀ l, 0 ≤ F l ∧ F l ≤ O l ∧ O l ≤ per) (z : Nat → Lg) (hz : ∀ l, l < 3 → Lok (z l)) (w : World) :
    Calls Try.prog 32 #[.agg #[.int .i64 ((z 0).s), .int .i64 ((z 0).j), .int .i64 ((z 1).s), .int .i64 ((z 1).j), .int .i64 ((z 2).s), .int .i64 ((z 2).j)], .agg #[.int .i64 (F 0), .int .i64 (O 0), .int .i64 (F 1), .int .i64 (O 1), .int .i64 (F 2), .int .i64 (O 2)], .int .i64 per, .int .i64 dd, .int .i64 tt] w fun e w' => ∃ (A : Option Addr) (c : Nat) (y : Nat → Lg) (es : List Ed),
      e = .returned (.tuple #[.agg #[.int .i64 per, .bool ((z 0).s == 2), .bool ((z 0).s == 1), .bool ((z 1).s == 2), .bool ((z 1).s == 1), .bool ((z 2).s == 2), .bool ((z 2).s == 1), .slice A es.length c], .agg #[.int .i64 ((y 0).s), .int .i64 ((y 0).j), .int .i64 ((y 1).s), .int .i64 ((y 1).j), .int .i64 ((y 2).s), .int .i64 ((y 2).j)], .nilIface]) ∧ Sl w' w'.heap.size 3 A (es.map Ed.row) ∧ es.length ≤ 12288 ∧ chk per es = 0 ∧
      (∀ (W : World), Sl W W.heap.size 3 A (es.map Ed.row) → Calls Try.prog 52 #[.agg #[.int .i64 ((z 0).s), .int .i64 ((z 0).j), .int .i64 ((z 1).s), .int .i64 ((z 1).j), .int .i64 ((z 2).s), .int .i64 ((z 2).j)], .agg #[.int .i64 per, .bool ((z 0).s == 2), .bool ((z 0).s == 1), .bool ((z 1).s == 2), .bool ((z 1).s == 1), .bool ((z 2).s == 2), .bool ((z 2).s == 1), .slice A es.length c], .int .i64 dd] W fun e w' => e = .returned (.tuple #[.bool true, .agg #[.int .i64 ((y 0).s), .int .i64 ((y 0).j), .int .i64 ((y 1).s), .int .i64 ((y 1).j), .int .i64 ((y 2).s), .int .i64 ((y 2).j)], .nilIface]) ∧ Below W.heap.size W w') ∧
      (∀ (W : World), Sl W W.heap.size 3 A (es.map Ed.row) → Calls Try.prog 53 #[.agg #[.int .i64 ((z 0).s), .int .i64 ((z 0).j), .int .i64 ((z 1).s), .int .i64 ((z 1).j), .int .i64 ((z 2).s), .int .i64 ((z 2).j)], .agg #[.int .i64 per, .bool ((z 0).s == 2), .bool ((z 0).s == 1), .bool ((z 1).s == 2), .bool ((z 1).s == 1), .bool ((z 2).s == 2), .bool ((z 2).s == 1), .slice A es.length c], .int .i64 dd] W fun e w' => e = .returned (.tuple #[.bool true, .agg #[.int .i64 ((y 0).s), .int .i64 ((y 0).j), .int .i64 ((y 1).s), .int .i64 ((y 1).j), .int .i64 ((y 2).s), .int .i64 ((y 2).j)], .int .i64 0]) ∧ Below W.heap.size W w') ∧
      (∀ l, l < 3 → tms per (onL z) es l 0 + tms per (onL z) es l 1 + tms per (onL z) es l 2 = per) ∧ (∀ l, l < 3 → Lok (y l)) ∧ Below w.heap.size w w' := by
  have hrg := lok_rng hz hp1 hp2 hd1 hd2
  refine (run_walk z F O per dd tt w hrg ht0 ht1 (hfo 0).1 (hfo 0).2.1 (hfo 0).2.2 (hfo 1).1 (hfo 1).2.1 (hfo 1).2.2 (hfo 2).1 (hfo 2).2.1 (hfo 2).2.2 ⟨per, dd, tt, F, O, z⟩ rfl).mono ?_
  rintro e w' ⟨A, n, c, rfl, hn, hsl, _, hb⟩
  subst hn
  have hlen := Rq.es_len ⟨per, dd, tt, F, O, z⟩ per.toNat
  have hck := es_chk (r := ⟨per, dd, tt, F, O, z⟩) hp1 hp2
  have hval := es_valid (r := ⟨per, dd, tt, F, O, z⟩) (per := per)
  have hsh := (valid_iff _ _).2 hval
  obtain ⟨la, hsf, hj⟩ := sf_es (r := ⟨per, dd, tt, F, O, z⟩) hz (by show dd ≤ 4096; omega) per.toNat
  have he1 := sfEnd_es (r := ⟨per, dd, tt, F, O, z⟩) hz (show 0 ≤ per by omega) hj
  have he2 := rfEnd_es (r := ⟨per, dd, tt, F, O, z⟩) hz (show 0 ≤ per by omega) hj
  have hsum := times_sum (r := ⟨per, dd, tt, F, O, z⟩) hz hp1 hp2
  have hlk := fun (l : Nat) (hl : l < 3) => Rq.lok3 (r := ⟨per, dd, tt, F, O, z⟩) hz l hl per.toNat
  refine ⟨A, c, fun l => Rq.at_ ⟨per, dd, tt, F, O, z⟩ l per.toNat, _, rfl, hsl, by omega, hck, fun W hW => ?_, fun W hW => ?_, hsum, hlk, hb⟩
  · refine (safe_walk z per dd _ _ _ _ _ _ A _ c _ W hW rfl (by omega) rfl hrg hsh).mono ?_
    rintro e w'' ⟨_, h2, h3⟩
    have h4 := h2 _ hsf
    rw [he1 0 (by omega), he1 1 (by omega), he1 2 (by omega)] at h4
    exact ⟨h4, h3⟩
  · refine (rsafe_walk z per dd _ _ _ _ _ _ A _ c _ W hW rfl (by omega) rfl hrg hsh).mono ?_
    rintro e w'' ⟨_, h2, h3⟩
    have h4 := h2 _ hsf
    rw [he2 0 (by omega), he2 1 (by omega), he2 2 (by omega)] at h4
    exact ⟨h4, h3⟩

set_option maxRecDepth 100000 in
set_option maxHeartbeats 6400000 in
theorem gatesSafe_walk (x : Nat → Lg) (AD : Option Addr) (n cD : Nat) (ds : List Dv) (d0 : Int) (w : World) (hE : Sl w w.heap.size 9 AD (ds.map Dv.row)) (hn : n = ds.length) :
    Calls Try.prog 17 #[.agg (cellsL x), .slice AD n cD, .int .i64 d0] w fun e w' => e = .returned (.bool true) ∧ Below w.heap.size w w' := by
  have HN := Lib.hid hn
  clear hn
  have g0 := Blk.new w 48 (cellsL x)
  have hb0 := (Below.refl w.heap.size w).alloc (Nat.le_refl _) (.cells (cellsL x) 48)
  unfold cellsL at g0 hb0 ⊢
  by_cases hbig : 12 < n
  · go_enter Try.func17, Try.ntmps17
    go_wp2_with fail
    refine (awakeG_walk _).mono ?_
    rintro e w1 ⟨rfl, hb1⟩
    have hb2 := hb0.trans (hb1.mono hb0.size)
    go_wp2_with fail
    refine (awakeG_walk _).mono ?_
    rintro e w2 ⟨rfl, hb3⟩
    have hb4 := hb2.trans (hb3.mono hb2.size)
    go_wp2
    go_ret
    exact ⟨rfl, hb4⟩
  · have hst := fun W => state_walk x W
    have hloks : ∀ l, l < 3 → Lok (stL x l) := fun l _ => legOk_lok (stL_ok x l)
    obtain ⟨z0, hz0⟩ : ∃ z, stL x = z := ⟨_, rfl⟩
    rw [hz0] at hst hloks
    unfold cellsL at hst
    have HST := hide hst
    have HLK := Lib.hid hloks
    have hnq := neq_legs
    unfold cellsL at hnq
    clear hst hloks hz0
    go_enter Try.func17, Try.ntmps17
    go_wp2_with fail
    refine (awakeG_walk _).mono ?_
    rintro e w1 ⟨rfl, hb1⟩
    have hb2 := hb0.trans (hb1.mono hb0.size)
    have g1 := g0.below hb1 g0.lt
    clear g0 hb0 hb1
    obtain ⟨x0, x1, x2, x3, x4, x5⟩ := g1.c6
    have l1 := g1.lt
    go_wp2_with fail
    refine ((unhide HST) _).mono ?_
    rintro e w2 ⟨rfl, hb3⟩
    have hb4 := hb2.trans (hb3.mono hb2.size)
    have g2 := g1.below hb3 g1.lt
    clear g1 hb2 hb3 x0 x1 x2 x3 x4 x5 l1
    obtain ⟨x0, x1, x2, x3, x4, x5⟩ := g2.c6
    have l1 := g2.lt
    have fs0 := g2.frozen 0
    have fs1 := g2.frozen 1
    have fs2 := g2.frozen 2
    have fs3 := g2.frozen 3
    have fs4 := g2.frozen 4
    have fs5 := g2.frozen 5
    have g3 : Blk _ (w.heap.size) 48 #[.int .i64 ((z0 0).s), .int .i64 ((z0 0).j), .int .i64 ((z0 1).s), .int .i64 ((z0 1).j), .int .i64 ((z0 2).s), .int .i64 ((z0 2).j)] := ((((((g2.set_ 0 (.int .i64 ((z0 0).s))).set_ 1 (.int .i64 ((z0 0).j))).set_ 2 (.int .i64 ((z0 1).s))).set_ 3 (.int .i64 ((z0 1).j))).set_ 4 (.int .i64 ((z0 2).s))).set_ 5 (.int .i64 ((z0 2).j)))
    have hb5 := ((((((hb4.setCell (p := ⟨w.heap.size, 0, none⟩) (by simp <;> omega) (.int .i64 ((z0 0).s))).setCell (p := ⟨w.heap.size, 1, none⟩) (by simp <;> omega) (.int .i64 ((z0 0).j))).setCell (p := ⟨w.heap.size, 2, none⟩) (by simp <;> omega) (.int .i64 ((z0 1).s))).setCell (p := ⟨w.heap.size, 3, none⟩) (by simp <;> omega) (.int .i64 ((z0 1).j))).setCell (p := ⟨w.heap.size, 4, none⟩) (by simp <;> omega) (.int .i64 ((z0 2).s))).setCell (p := ⟨w.heap.size, 5, none⟩) (by simp <;> omega) (.int .i64 ((z0 2).j)))
    go_wp2
    go_loopw [33] (fun i wr => ∃ (k : Nat) (z : Nat → Lg), k ≤ n ∧ i = .int .i64 k ∧ Hid (∀ l, l < 3 → Lok (z l)) ∧ Blk wr (w.heap.size) 48 #[.int .i64 ((z 0).s), .int .i64 ((z 0).j), .int .i64 ((z 1).s), .int .i64 ((z 1).j), .int .i64 ((z 2).s), .int .i64 ((z 2).j)] ∧ Below w.heap.size w wr) (fun i _ => n - (intOf i).toNat)
    case atStart => exact ⟨0, z0, Nat.zero_le _, rfl, HLK, g3, hb5⟩
    case round =>
    clear g2 g3 hb4 hb5 x0 x1 x2 x3 x4 x5 l1 fs0 fs1 fs2 fs3 fs4 fs5 HLK
    obtain ⟨k, z, hk, rfl, HZ, g0, hb⟩ := hrel
    obtain ⟨wo, rfl⟩ : ∃ wo : World, wo = wr := ⟨_, rfl⟩
    have lS := g0.lt
    by_cases hlt : k < n
    · obtain ⟨x, hx⟩ : ∃ x, ds[k]? = some x := ⟨_, List.getElem?_eq_getElem (by have := HN.out; omega)⟩
      obtain ⟨ad, p, rfl, hpa, hpb, e0, e1, e2, e3, e4, e5, e6, e7, e8⟩ := ((hE.below hb).nine (k := k) (x0 := .int .i64 (x.f 0)) (x1 := .int .i64 (x.o 0)) (x2 := .int .i64 (x.f 1)) (x3 := .int .i64 (x.o 1)) (x4 := .int .i64 (x.f 2)) (x5 := .int .i64 (x.o 2)) (x6 := .int .i64 x.p) (x7 := .int .i64 x.d) (x8 := .int .i64 x.t) (by rw [List.getElem?_map, hx]; rfl))
      have hpb1 : p.block < wo.heap.size := Nat.lt_of_lt_of_le hpb hb.size
      clear hx
      have hdr := fun W => drive_walk x.f x.o x.p x.d x.t x.p d0 W
      have hpb2 := clipI_bds (n := x.p) (lo := 64) (hi := 4096) (by omega)
      obtain ⟨per, hper⟩ : ∃ p, clipI x.p 64 4096 = p := ⟨_, rfl⟩
      have hdb := clipI_bds (n := d0) (lo := 1) (hi := 1024) (by omega)
      obtain ⟨dd, hdd⟩ : ∃ p, clipI d0 1 1024 = p := ⟨_, rfl⟩
      rw [hper] at hpb2
      rw [hdd] at hdb
      obtain ⟨hp1, hp2⟩ := hpb2
      obtain ⟨hd1, hd2⟩ := hdb
      have htb := clipI_bds (n := x.t) (lo := 0) (hi := per) (by omega)
      obtain ⟨tt, htt⟩ : ∃ p, clipI x.t 0 per = p := ⟨_, rfl⟩
      rw [htt] at htb
      obtain ⟨ht0, ht1⟩ := htb
      have hdv := dv_ok x.f x.o (show 0 ≤ per by omega)
      simp only [hper, hdd, htt] at hdr
      obtain ⟨F, hF⟩ : ∃ F, dvF x.f per = F := ⟨_, rfl⟩
      obtain ⟨O, hO⟩ : ∃ O, dvO x.f x.o per = O := ⟨_, rfl⟩
      rw [hF, hO] at hdr hdv
      have hru := fun W => run_safe per dd tt hp1 hp2 hd1 hd2 ht0 ht1 F O hdv z HZ.out W
      unfold cellsD at hdr
      have HDX := hide hdr
      have HRU := hide hru
      clear hdr hru hdv hF hO hper hdd htt
      have r0 := g0.alloc (.cells #[.int .i64 (x.f 0), .int .i64 (x.o 0), .int .i64 (x.f 1), .int .i64 (x.o 1), .int .i64 (x.f 2), .int .i64 (x.o 2), .int .i64 (x.p), .int .i64 (x.d), .int .i64 (x.t)] 53)
      have r1 := Blk.new wo 53 #[.int .i64 (x.f 0), .int .i64 (x.o 0), .int .i64 (x.f 1), .int .i64 (x.o 1), .int .i64 (x.f 2), .int .i64 (x.o 2), .int .i64 (x.p), .int .i64 (x.d), .int .i64 (x.t)]
      have rb := hb.alloc hb.size (.cells #[.int .i64 (x.f 0), .int .i64 (x.o 0), .int .i64 (x.f 1), .int .i64 (x.o 1), .int .i64 (x.f 2), .int .i64 (x.o 2), .int .i64 (x.p), .int .i64 (x.d), .int .i64 (x.t)] 53)
      go_wp2_with fail
      refine ((unhide HDX) _).mono ?_
      rintro e w3 ⟨rfl, hb9⟩
      have s0 := r0.below hb9 r0.lt
      have s1 := r1.below hb9 r1.lt
      have sb := rb.trans (hb9.mono rb.size)
      clear g0 hb r0 r1 rb hb9 HDX e0 e1 e2 e3 e4 e5 e6 e7 e8
      have lX := s1.lt
      obtain ⟨y0, y1, y2, y3, y4, y5, y6, y7, y8⟩ := s1.c9
      obtain ⟨x0, x1, x2, x3, x4, x5⟩ := s0.c6
      have lS2 := s0.lt
      have fd0 := s1.frozen 0
      have fd1 := s1.frozen 1
      have fd2 := s1.frozen 2
      have fd3 := s1.frozen 3
      have fd4 := s1.frozen 4
      have fd5 := s1.frozen 5
      have fd6 := s1.frozen 6
      have fd7 := s1.frozen 7
      have fd8 := s1.frozen 8
      have gg0 : Blk _ (wo.heap.size) 53 #[.int .i64 (F 0), .int .i64 (x.o 0), .int .i64 (x.f 1), .int .i64 (x.o 1), .int .i64 (x.f 2), .int .i64 (x.o 2), .int .i64 (x.p), .int .i64 (x.d), .int .i64 (x.t)] := s1.set_ 0 (.int .i64 (F 0))
      have gg1 : Blk _ (wo.heap.size) 53 #[.int .i64 (F 0), .int .i64 (O 0), .int .i64 (x.f 1), .int .i64 (x.o 1), .int .i64 (x.f 2), .int .i64 (x.o 2), .int .i64 (x.p), .int .i64 (x.d), .int .i64 (x.t)] := gg0.set_ 1 (.int .i64 (O 0))
      have gg2 : Blk _ (wo.heap.size) 53 #[.int .i64 (F 0), .int .i64 (O 0), .int .i64 (F 1), .int .i64 (x.o 1), .int .i64 (x.f 2), .int .i64 (x.o 2), .int .i64 (x.p), .int .i64 (x.d), .int .i64 (x.t)] := gg1.set_ 2 (.int .i64 (F 1))
      have gg3 : Blk _ (wo.heap.size) 53 #[.int .i64 (F 0), .int .i64 (O 0), .int .i64 (F 1), .int .i64 (O 1), .int .i64 (x.f 2), .int .i64 (x.o 2), .int .i64 (x.p), .int .i64 (x.d), .int .i64 (x.t)] := gg2.set_ 3 (.int .i64 (O 1))
      have gg4 : Blk _ (wo.heap.size) 53 #[.int .i64 (F 0), .int .i64 (O 0), .int .i64 (F 1), .int .i64 (O 1), .int .i64 (F 2), .int .i64 (x.o 2), .int .i64 (x.p), .int .i64 (x.d), .int .i64 (x.t)] := gg3.set_ 4 (.int .i64 (F 2))
      have gg5 : Blk _ (wo.heap.size) 53 #[.int .i64 (F 0), .int .i64 (O 0), .int .i64 (F 1), .int .i64 (O 1), .int .i64 (F 2), .int .i64 (O 2), .int .i64 (x.p), .int .i64 (x.d), .int .i64 (x.t)] := gg4.set_ 5 (.int .i64 (O 2))
      have gg6 : Blk _ (wo.heap.size) 53 #[.int .i64 (F 0), .int .i64 (O 0), .int .i64 (F 1), .int .i64 (O 1), .int .i64 (F 2), .int .i64 (O 2), .int .i64 per, .int .i64 (x.d), .int .i64 (x.t)] := gg5.set_ 6 (.int .i64 per)
      have gg7 : Blk _ (wo.heap.size) 53 #[.int .i64 (F 0), .int .i64 (O 0), .int .i64 (F 1), .int .i64 (O 1), .int .i64 (F 2), .int .i64 (O 2), .int .i64 per, .int .i64 dd, .int .i64 (x.t)] := gg6.set_ 7 (.int .i64 dd)
      have gg8 : Blk _ (wo.heap.size) 53 #[.int .i64 (F 0), .int .i64 (O 0), .int .i64 (F 1), .int .i64 (O 1), .int .i64 (F 2), .int .i64 (O 2), .int .i64 per, .int .i64 dd, .int .i64 tt] := gg7.set_ 8 (.int .i64 tt)
      have t1 := gg8
      clear gg0 gg1 gg2 gg3 gg4 gg5 gg6 gg7 gg8
      have t0 := (((((((((s0.far (p := ⟨wo.heap.size, 0, none⟩) (by simp <;> omega) (.int .i64 (F 0))).far (p := ⟨wo.heap.size, 1, none⟩) (by simp <;> omega) (.int .i64 (O 0))).far (p := ⟨wo.heap.size, 2, none⟩) (by simp <;> omega) (.int .i64 (F 1))).far (p := ⟨wo.heap.size, 3, none⟩) (by simp <;> omega) (.int .i64 (O 1))).far (p := ⟨wo.heap.size, 4, none⟩) (by simp <;> omega) (.int .i64 (F 2))).far (p := ⟨wo.heap.size, 5, none⟩) (by simp <;> omega) (.int .i64 (O 2))).far (p := ⟨wo.heap.size, 6, none⟩) (by simp <;> omega) (.int .i64 per)).far (p := ⟨wo.heap.size, 7, none⟩) (by simp <;> omega) (.int .i64 dd)).far (p := ⟨wo.heap.size, 8, none⟩) (by simp <;> omega) (.int .i64 tt))
      have tb := (((((((((sb.setCell (p := ⟨wo.heap.size, 0, none⟩) (by simp <;> omega) (.int .i64 (F 0))).setCell (p := ⟨wo.heap.size, 1, none⟩) (by simp <;> omega) (.int .i64 (O 0))).setCell (p := ⟨wo.heap.size, 2, none⟩) (by simp <;> omega) (.int .i64 (F 1))).setCell (p := ⟨wo.heap.size, 3, none⟩) (by simp <;> omega) (.int .i64 (O 1))).setCell (p := ⟨wo.heap.size, 4, none⟩) (by simp <;> omega) (.int .i64 (F 2))).setCell (p := ⟨wo.heap.size, 5, none⟩) (by simp <;> omega) (.int .i64 (O 2))).setCell (p := ⟨wo.heap.size, 6, none⟩) (by simp <;> omega) (.int .i64 per)).setCell (p := ⟨wo.heap.size, 7, none⟩) (by simp <;> omega) (.int .i64 dd)).setCell (p := ⟨wo.heap.size, 8, none⟩) (by simp <;> omega) (.int .i64 tt))
      go_wp2_with fail
      refine ((unhide HRU) _).mono ?_
      rintro e w6 ⟨A, c, y, es, rfl, hsl, hl2, hck, hsa, hrs, hsum, hy, hb9⟩
      have g05 := t0.below hb9 t0.lt
      have g15 := t1.below hb9 t1.lt
      have hbA := tb.trans (hb9.mono tb.size)
      have hti := fun (W : World) (hE : Sl W W.heap.size 3 A (es.map Ed.row)) => times_walk per ((z 0).s == 2) ((z 0).s == 1) ((z 1).s == 2) ((z 1).s == 1) ((z 2).s == 2) ((z 2).s == 1) A es.length c es W hE rfl (by omega)
      have hon : [(z 0).s == 2, (z 0).s == 1, (z 1).s == 2, (z 1).s == 1, (z 2).s == 2, (z 2).s == 1] = onL z := rfl
      rw [hon] at hti
      simp only [hck, errV_zero] at hti
      have hs0 := hsum 0 (by omega)
      have hs1 := hsum 1 (by omega)
      have hs2 := hsum 2 (by omega)
      have bd00 := tms_bdQ per (onL z) es 0 0 (by omega)
      obtain ⟨q00, eq00⟩ : ∃ q, tms per (onL z) es 0 0 = q := ⟨_, rfl⟩
      rw [eq00] at bd00 hs0
      obtain ⟨bl00, bu00⟩ := bd00
      have bd01 := tms_bdQ per (onL z) es 0 1 (by omega)
      obtain ⟨q01, eq01⟩ : ∃ q, tms per (onL z) es 0 1 = q := ⟨_, rfl⟩
      rw [eq01] at bd01 hs0
      obtain ⟨bl01, bu01⟩ := bd01
      have bd02 := tms_bdQ per (onL z) es 0 2 (by omega)
      obtain ⟨q02, eq02⟩ : ∃ q, tms per (onL z) es 0 2 = q := ⟨_, rfl⟩
      rw [eq02] at bd02 hs0
      obtain ⟨bl02, bu02⟩ := bd02
      have bd10 := tms_bdQ per (onL z) es 1 0 (by omega)
      obtain ⟨q10, eq10⟩ : ∃ q, tms per (onL z) es 1 0 = q := ⟨_, rfl⟩
      rw [eq10] at bd10 hs1
      obtain ⟨bl10, bu10⟩ := bd10
      have bd11 := tms_bdQ per (onL z) es 1 1 (by omega)
      obtain ⟨q11, eq11⟩ : ∃ q, tms per (onL z) es 1 1 = q := ⟨_, rfl⟩
      rw [eq11] at bd11 hs1
      obtain ⟨bl11, bu11⟩ := bd11
      have bd12 := tms_bdQ per (onL z) es 1 2 (by omega)
      obtain ⟨q12, eq12⟩ : ∃ q, tms per (onL z) es 1 2 = q := ⟨_, rfl⟩
      rw [eq12] at bd12 hs1
      obtain ⟨bl12, bu12⟩ := bd12
      have bd20 := tms_bdQ per (onL z) es 2 0 (by omega)
      obtain ⟨q20, eq20⟩ : ∃ q, tms per (onL z) es 2 0 = q := ⟨_, rfl⟩
      rw [eq20] at bd20 hs2
      obtain ⟨bl20, bu20⟩ := bd20
      have bd21 := tms_bdQ per (onL z) es 2 1 (by omega)
      obtain ⟨q21, eq21⟩ : ∃ q, tms per (onL z) es 2 1 = q := ⟨_, rfl⟩
      rw [eq21] at bd21 hs2
      obtain ⟨bl21, bu21⟩ := bd21
      have bd22 := tms_bdQ per (onL z) es 2 2 (by omega)
      obtain ⟨q22, eq22⟩ : ∃ q, tms per (onL z) es 2 2 = q := ⟨_, rfl⟩
      rw [eq22] at bd22 hs2
      obtain ⟨bl22, bu22⟩ := bd22
      simp only [eq00, eq01, eq02, eq10, eq11, eq12, eq20, eq21, eq22] at hti
      have HTI := hide hti
      have HSA := hide hsa
      have HRS := hide hrs
      have HY := Lib.hid hy
      have HS0 := Lib.hid hs0
      have HS1 := Lib.hid hs1
      have HS2 := Lib.hid hs2
      clear hti hsa hrs hy hs0 hs1 hs2 hsum hon hck eq00 eq01 eq02 eq10 eq11 eq12 eq20 eq21 eq22 s0 s1 sb t0 t1 tb hb9 HRU lX lS2 x0 x1 x2 x3 x4 x5 y0 y1 y2 y3 y4 y5 y6 y7 y8 fd0 fd1 fd2 fd3 fd4 fd5 fd6 fd7 fd8
      have r0 := (g05.alloc (.cells #[.int .i64 per, .bool ((z 0).s == 2), .bool ((z 0).s == 1), .bool ((z 1).s == 2), .bool ((z 1).s == 1), .bool ((z 2).s == 2), .bool ((z 2).s == 1), .slice A es.length c] 25)).alloc (.cells #[.int .i64 ((y 0).s), .int .i64 ((y 0).j), .int .i64 ((y 1).s), .int .i64 ((y 1).j), .int .i64 ((y 2).s), .int .i64 ((y 2).j)] 48)
      have r1 := (g15.alloc (.cells #[.int .i64 per, .bool ((z 0).s == 2), .bool ((z 0).s == 1), .bool ((z 1).s == 2), .bool ((z 1).s == 1), .bool ((z 2).s == 2), .bool ((z 2).s == 1), .slice A es.length c] 25)).alloc (.cells #[.int .i64 ((y 0).s), .int .i64 ((y 0).j), .int .i64 ((y 1).s), .int .i64 ((y 1).j), .int .i64 ((y 2).s), .int .i64 ((y 2).j)] 48)
      have rG := (Blk.new w6 25 #[.int .i64 per, .bool ((z 0).s == 2), .bool ((z 0).s == 1), .bool ((z 1).s == 2), .bool ((z 1).s == 1), .bool ((z 2).s == 2), .bool ((z 2).s == 1), .slice A es.length c]).alloc (.cells #[.int .i64 ((y 0).s), .int .i64 ((y 0).j), .int .i64 ((y 1).s), .int .i64 ((y 1).j), .int .i64 ((y 2).s), .int .i64 ((y 2).j)] 48)
      have rY := Blk.new' (w := w6.alloc (.cells #[.int .i64 per, .bool ((z 0).s == 2), .bool ((z 0).s == 1), .bool ((z 1).s == 2), .bool ((z 1).s == 1), .bool ((z 2).s == 2), .bool ((z 2).s == 1), .slice A es.length c] 25)) (t := 48) (cs := #[.int .i64 ((y 0).s), .int .i64 ((y 0).j), .int .i64 ((y 1).s), .int .i64 ((y 1).j), .int .i64 ((y 2).s), .int .i64 ((y 2).j)]) (g := w6.heap.size + 1) (by simp)
      have rE : Sl ((w6.alloc (.cells #[.int .i64 per, .bool ((z 0).s == 2), .bool ((z 0).s == 1), .bool ((z 1).s == 2), .bool ((z 1).s == 1), .bool ((z 2).s == 2), .bool ((z 2).s == 1), .slice A es.length c] 25)).alloc (.cells #[.int .i64 ((y 0).s), .int .i64 ((y 0).j), .int .i64 ((y 1).s), .int .i64 ((y 1).j), .int .i64 ((y 2).s), .int .i64 ((y 2).j)] 48)) ((w6.alloc (.cells #[.int .i64 per, .bool ((z 0).s == 2), .bool ((z 0).s == 1), .bool ((z 1).s == 2), .bool ((z 1).s == 1), .bool ((z 2).s == 2), .bool ((z 2).s == 1), .slice A es.length c] 25)).alloc (.cells #[.int .i64 ((y 0).s), .int .i64 ((y 0).j), .int .i64 ((y 1).s), .int .i64 ((y 1).j), .int .i64 ((y 2).s), .int .i64 ((y 2).j)] 48)).heap.size 3 A (es.map Ed.row) := ((hsl.alloc (Nat.le_refl _) (.cells #[.int .i64 per, .bool ((z 0).s == 2), .bool ((z 0).s == 1), .bool ((z 1).s == 2), .bool ((z 1).s == 1), .bool ((z 2).s == 2), .bool ((z 2).s == 1), .slice A es.length c] 25)).alloc (by simp) (.cells #[.int .i64 ((y 0).s), .int .i64 ((y 0).j), .int .i64 ((y 1).s), .int .i64 ((y 1).j), .int .i64 ((y 2).s), .int .i64 ((y 2).j)] 48)).more (by simp <;> omega)
      have rb := (hbA.alloc hbA.size (.cells #[.int .i64 per, .bool ((z 0).s == 2), .bool ((z 0).s == 1), .bool ((z 1).s == 2), .bool ((z 1).s == 1), .bool ((z 2).s == 2), .bool ((z 2).s == 1), .slice A es.length c] 25)).alloc (by have := hbA.size; simp <;> omega) (.cells #[.int .i64 ((y 0).s), .int .i64 ((y 0).j), .int .i64 ((y 1).s), .int .i64 ((y 1).j), .int .i64 ((y 2).s), .int .i64 ((y 2).j)] 48)
      have l0 := g05.lt
      have l1 := g15.lt
      have l0a : w.heap.size < w6.heap.size + 1 := by omega
      have l1a : wo.heap.size < w6.heap.size + 1 := by omega
      obtain ⟨x0, x1, x2, x3, x4, x5⟩ := g05.c6
      obtain ⟨y0, y1, y2, y3, y4, y5, y6, y7, y8⟩ := g15.c9
      go_wp2_with fail
      refine ((unhide HSA) _ rE).mono ?_
      rintro e w7 ⟨rfl, hb7⟩
      have s0 := r0.below hb7 r0.lt
      have s1 := r1.below hb7 r1.lt
      have sG := rG.below hb7 rG.lt
      have sY := rY.below hb7 rY.lt
      have sE := (rE.below hb7).more hb7.size
      have sb := rb.trans (hb7.mono rb.size)
      clear r0 r1 rG rY rE rb hb7 g05 g15 hbA hsl HSA x0 x1 x2 x3 x4 x5 y0 y1 y2 y3 y4 y5 y6 y7 y8 l0 l1 l0a l1a
      have u0 := s0.alloc (.cells #[.int .i64 ((y 0).s), .int .i64 ((y 0).j), .int .i64 ((y 1).s), .int .i64 ((y 1).j), .int .i64 ((y 2).s), .int .i64 ((y 2).j)] 48)
      have u1 := s1.alloc (.cells #[.int .i64 ((y 0).s), .int .i64 ((y 0).j), .int .i64 ((y 1).s), .int .i64 ((y 1).j), .int .i64 ((y 2).s), .int .i64 ((y 2).j)] 48)
      have uG := sG.alloc (.cells #[.int .i64 ((y 0).s), .int .i64 ((y 0).j), .int .i64 ((y 1).s), .int .i64 ((y 1).j), .int .i64 ((y 2).s), .int .i64 ((y 2).j)] 48)
      have uY := sY.alloc (.cells #[.int .i64 ((y 0).s), .int .i64 ((y 0).j), .int .i64 ((y 1).s), .int .i64 ((y 1).j), .int .i64 ((y 2).s), .int .i64 ((y 2).j)] 48)
      have uU := Blk.new w7 48 #[.int .i64 ((y 0).s), .int .i64 ((y 0).j), .int .i64 ((y 1).s), .int .i64 ((y 1).j), .int .i64 ((y 2).s), .int .i64 ((y 2).j)]
      have uE : Sl (w7.alloc (.cells #[.int .i64 ((y 0).s), .int .i64 ((y 0).j), .int .i64 ((y 1).s), .int .i64 ((y 1).j), .int .i64 ((y 2).s), .int .i64 ((y 2).j)] 48)) (w7.alloc (.cells #[.int .i64 ((y 0).s), .int .i64 ((y 0).j), .int .i64 ((y 1).s), .int .i64 ((y 1).j), .int .i64 ((y 2).s), .int .i64 ((y 2).j)] 48)).heap.size 3 A (es.map Ed.row) := (sE.alloc (Nat.le_refl _) (.cells #[.int .i64 ((y 0).s), .int .i64 ((y 0).j), .int .i64 ((y 1).s), .int .i64 ((y 1).j), .int .i64 ((y 2).s), .int .i64 ((y 2).j)] 48)).more (by simp)
      have ub := sb.alloc sb.size (.cells #[.int .i64 ((y 0).s), .int .i64 ((y 0).j), .int .i64 ((y 1).s), .int .i64 ((y 1).j), .int .i64 ((y 2).s), .int .i64 ((y 2).j)] 48)
      have l0 := s0.lt
      have l1 := s1.lt
      have lG := sG.lt
      have lY := sY.lt
      obtain ⟨x0, x1, x2, x3, x4, x5⟩ := s0.c6
      obtain ⟨y0, y1, y2, y3, y4, y5, y6, y7, y8⟩ := s1.c9
      obtain ⟨v0, v1, v2, v3, v4, v5, v6, v7⟩ := sG.c8
      go_wp2_with fail
      refine ((unhide HRS) _ uE).mono ?_
      rintro e w8 ⟨rfl, hb8⟩
      have s0 := u0.below hb8 u0.lt
      have s1 := u1.below hb8 u1.lt
      have sG := uG.below hb8 uG.lt
      have sY := uY.below hb8 uY.lt
      have sU := uU.below hb8 uU.lt
      have sE := (uE.below hb8).more hb8.size
      have sb := ub.trans (hb8.mono ub.size)
      clear u0 u1 uG uY uU uE ub hb8 HRS x0 x1 x2 x3 x4 x5 y0 y1 y2 y3 y4 y5 y6 y7 y8 v0 v1 v2 v3 v4 v5 v6 v7 l0 l1 lG lY
      have u0 := s0.alloc (.cells #[.int .i64 ((y 0).s), .int .i64 ((y 0).j), .int .i64 ((y 1).s), .int .i64 ((y 1).j), .int .i64 ((y 2).s), .int .i64 ((y 2).j)] 48)
      have u1 := s1.alloc (.cells #[.int .i64 ((y 0).s), .int .i64 ((y 0).j), .int .i64 ((y 1).s), .int .i64 ((y 1).j), .int .i64 ((y 2).s), .int .i64 ((y 2).j)] 48)
      have uG := sG.alloc (.cells #[.int .i64 ((y 0).s), .int .i64 ((y 0).j), .int .i64 ((y 1).s), .int .i64 ((y 1).j), .int .i64 ((y 2).s), .int .i64 ((y 2).j)] 48)
      have uY := sY.alloc (.cells #[.int .i64 ((y 0).s), .int .i64 ((y 0).j), .int .i64 ((y 1).s), .int .i64 ((y 1).j), .int .i64 ((y 2).s), .int .i64 ((y 2).j)] 48)
      have uE : Sl (w8.alloc (.cells #[.int .i64 ((y 0).s), .int .i64 ((y 0).j), .int .i64 ((y 1).s), .int .i64 ((y 1).j), .int .i64 ((y 2).s), .int .i64 ((y 2).j)] 48)) (w8.alloc (.cells #[.int .i64 ((y 0).s), .int .i64 ((y 0).j), .int .i64 ((y 1).s), .int .i64 ((y 1).j), .int .i64 ((y 2).s), .int .i64 ((y 2).j)] 48)).heap.size 3 A (es.map Ed.row) := (sE.alloc (Nat.le_refl _) (.cells #[.int .i64 ((y 0).s), .int .i64 ((y 0).j), .int .i64 ((y 1).s), .int .i64 ((y 1).j), .int .i64 ((y 2).s), .int .i64 ((y 2).j)] 48)).more (by simp)
      have ub := sb.alloc sb.size (.cells #[.int .i64 ((y 0).s), .int .i64 ((y 0).j), .int .i64 ((y 1).s), .int .i64 ((y 1).j), .int .i64 ((y 2).s), .int .i64 ((y 2).j)] 48)
      have lG := sG.lt
      have lY := sY.lt
      have lU := sU.lt
      have hq := hnq y
      obtain ⟨x0, x1, x2, x3, x4, x5⟩ := sY.c6
      obtain ⟨y0, y1, y2, y3, y4, y5⟩ := sU.c6
      obtain ⟨v0, v1, v2, v3, v4, v5, v6, v7⟩ := sG.c8
      go_wp2_with fail
      refine ((unhide HTI) _ uE).mono ?_
      rintro e w9 ⟨rfl, hb9⟩
      have s0 := u0.below hb9 u0.lt
      have s1 := u1.below hb9 u1.lt
      have sY := uY.below hb9 uY.lt
      have sb := ub.trans (hb9.mono ub.size)
      clear u0 u1 uG uY uE ub hb9 HTI x0 x1 x2 x3 x4 x5 y0 y1 y2 y3 y4 y5 v0 v1 v2 v3 v4 v5 v6 v7 lG lY lU sG sU hq
      go_wp2
      go_loopw [109] (fun i wr => (i = .int .i64 0 ∨ i = .int .i64 1 ∨ i = .int .i64 2 ∨ i = .int .i64 3) ∧ Blk wr (w9.heap.size) 66 #[.int .i64 q00, .int .i64 q01, .int .i64 q02, .int .i64 q10, .int .i64 q11, .int .i64 q12, .int .i64 q20, .int .i64 q21, .int .i64 q22] ∧ Blk wr (w6.heap.size + 1) 48 #[.int .i64 ((y 0).s), .int .i64 ((y 0).j), .int .i64 ((y 1).s), .int .i64 ((y 1).j), .int .i64 ((y 2).s), .int .i64 ((y 2).j)] ∧ Blk wr (w.heap.size) 48 #[.int .i64 ((z 0).s), .int .i64 ((z 0).j), .int .i64 ((z 1).s), .int .i64 ((z 1).j), .int .i64 ((z 2).s), .int .i64 ((z 2).j)] ∧ Blk wr (wo.heap.size) 53 #[.int .i64 (F 0), .int .i64 (O 0), .int .i64 (F 1), .int .i64 (O 1), .int .i64 (F 2), .int .i64 (O 2), .int .i64 per, .int .i64 dd, .int .i64 tt] ∧ Below w.heap.size w wr) (fun i _ => 3 - (intOf i).toNat)
      case atStart => exact ⟨.inl rfl, Blk.new _ _ _, sY.alloc _, s0.alloc _, s1.alloc _, sb.alloc sb.size _⟩
      case round =>
      clear s0 s1 sY sb
      obtain ⟨hdj, gT, gY, g0, g1, hb⟩ := hrel
      have lT := gT.lt
      have lY := gY.lt
      have lSa := g0.lt
      have lX := g1.lt
      obtain ⟨x0, x1, x2, x3, x4, x5⟩ := gY.c6
      obtain ⟨y0, y1, y2, y3, y4, y5, y6, y7, y8⟩ := g1.c9
      rcases hdj with rfl | rfl | rfl | rfl
      · obtain ⟨t0, t1, t2, t3, t4, t5, t6, t7, t8⟩ := gT.c9
        have ew1 : IntKind.i64.wrap (q00 + q01) = q00 + q01 := IntWalk.i64_in _ (by omega)
        have ew2 : IntKind.i64.wrap (q00 + q01 + q02) = per := by rw [IntWalk.i64_in _ (by omega)]; exact HS0.out
        go_wp2
        go_quiet (fail)
        go_wp2
        go_roundw
        case rel => exact ⟨.inr (.inl rfl), gT.drewN nq, gY.drewN nq, g0.drewN nq, g1.drewN nq, below_drewN hb nq⟩
        case measure => simp [intOf]
      · obtain ⟨t0, t1, t2, t3, t4, t5, t6, t7, t8⟩ := gT.c9
        have ew1 : IntKind.i64.wrap (q10 + q11) = q10 + q11 := IntWalk.i64_in _ (by omega)
        have ew2 : IntKind.i64.wrap (q10 + q11 + q12) = per := by rw [IntWalk.i64_in _ (by omega)]; exact HS1.out
        go_wp2
        go_quiet (fail)
        go_wp2
        go_roundw
        case rel => exact ⟨.inr (.inr (.inl rfl)), gT.drewN nq, gY.drewN nq, g0.drewN nq, g1.drewN nq, below_drewN hb nq⟩
        case measure => simp [intOf]
      · obtain ⟨t0, t1, t2, t3, t4, t5, t6, t7, t8⟩ := gT.c9
        have ew1 : IntKind.i64.wrap (q20 + q21) = q20 + q21 := IntWalk.i64_in _ (by omega)
        have ew2 : IntKind.i64.wrap (q20 + q21 + q22) = per := by rw [IntWalk.i64_in _ (by omega)]; exact HS2.out
        go_wp2
        go_quiet (fail)
        go_wp2
        go_roundw
        case rel => exact ⟨.inr (.inr (.inr rfl)), gT.drewN nq, gY.drewN nq, g0.drewN nq, g1.drewN nq, below_drewN hb nq⟩
        case measure => simp [intOf]
      · obtain ⟨v0, v1, v2, v3, v4, v5⟩ := g0.c6
        have fs0 := g0.frozen 0
        have fs1 := g0.frozen 1
        have fs2 := g0.frozen 2
        have fs3 := g0.frozen 3
        have fs4 := g0.frozen 4
        have fs5 := g0.frozen 5
        have k0 : Blk _ (w.heap.size) 48 #[.int .i64 ((y 0).s), .int .i64 ((y 0).j), .int .i64 ((y 1).s), .int .i64 ((y 1).j), .int .i64 ((y 2).s), .int .i64 ((y 2).j)] := ((((((g0.set_ 0 (.int .i64 ((y 0).s))).set_ 1 (.int .i64 ((y 0).j))).set_ 2 (.int .i64 ((y 1).s))).set_ 3 (.int .i64 ((y 1).j))).set_ 4 (.int .i64 ((y 2).s))).set_ 5 (.int .i64 ((y 2).j)))
        have kb := ((((((hb.setCell (p := ⟨w.heap.size, 0, none⟩) (by simp <;> omega) (.int .i64 ((y 0).s))).setCell (p := ⟨w.heap.size, 1, none⟩) (by simp <;> omega) (.int .i64 ((y 0).j))).setCell (p := ⟨w.heap.size, 2, none⟩) (by simp <;> omega) (.int .i64 ((y 1).s))).setCell (p := ⟨w.heap.size, 3, none⟩) (by simp <;> omega) (.int .i64 ((y 1).j))).setCell (p := ⟨w.heap.size, 4, none⟩) (by simp <;> omega) (.int .i64 ((y 2).s))).setCell (p := ⟨w.heap.size, 5, none⟩) (by simp <;> omega) (.int .i64 ((y 2).j)))
        go_wp2
        go_roundw
        case rel => exact ⟨k + 1, y, by omega, by go_num, HY, k0, kb⟩
        case measure => simp [intOf]; omega
    · obtain rfl : k = n := by omega
      go_wp2
      go_ret
      exact ⟨rfl, hb⟩

end Go.Proofs.Ytgnojdiecgfeaaa
