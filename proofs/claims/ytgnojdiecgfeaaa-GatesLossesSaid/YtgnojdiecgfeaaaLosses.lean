/- The walk of the statement GatesLosses. -/
import Derived.Test.YtgnojdiecgfeaaaPlainL
import Derived.Test.YtgnojdiecgfeaaaPlainM
import Derived.Test.YtgnojdiecgfeaaaGTrips
import Derived.ChangeKeysEq
import Derived.Test.YtgnojdiecgfeaaaOpenH
import Derived.Test.YtgnojdiecgfeaaaSl9
namespace Go.Proofs.Ytgnojdiecgfeaaa
open Go.RowKit

theorem infoIntL : (Try.prog.info? 3).map (fun i => (i.zero, i.size, i.bytes)) = some (some (.int .i64 0), 1, 8) := by kernel_rfl
theorem cellsIntL : Try.prog.cellsOf 3 = 1 := by kernel_rfl
set_option maxRecDepth 100000 in
theorem neq_ints3 (a b c : Int) (w : World) : (binOp .neq 26 (.agg #[.int .i64 a, .int .i64 b, .int .i64 c]) (.agg #[.int .i64 a, .int .i64 b, .int .i64 c])).run Try.prog w = .ok (.bool false) w := by
  obtain ⟨i0, hi, hz0, hz1, hz2⟩ := info_parts infoIntL
  rw [run_neq_struct, show (10000 : Nat) = 9999 + 1 from rfl, run_equalIn_array _ 9999 _ _ Try.underlying26 hi, cellsIntL]
  have h1 := fun (x y : Int) (w : World) => run_equalIn_int (P := Try.prog) w 9998 3 .i64 .i64 x y Try.underlying3
  simp only [Nat.reduceAdd] at h1
  have hr : List.range 3 = [0, 1, 2] := by decide
  rw [hr]
  simp [Op.eqItems, go_sem, h1]
theorem clipI_in {n lo hi : Int} (h1 : lo ≤ n) (h2 : n ≤ hi) : clipI n lo hi = n := by unfold clipI; rw [if_neg (by omega), if_neg (by omega)]
theorem idx51_r0 (a b c d e f : Value) (w : World) : (Instr.index 51 (.agg #[a, b, c, d, e, f]) (.int .i64 0)).run Try.prog w = .ok (.agg #[a, b]) w := idx51_0 a b c d e f w

/-- Run over a period whose pulses and gaps are longer than the dead time. -/
theorem run_loss (per dd : Int) (hp1 : 64 ≤ per) (hp2 : per ≤ 4096) (hd1 : 1 ≤ dd) (hd2 : dd ≤ 1024) (a b : Nat → Int) (h : ∀ l, l < 3 → dd + 1 ≤ a l ∧ a l + dd + 1 ≤ b l ∧ b l + dd + 1 ≤ per) (z : Nat → Lg) (hz : ∀ l, l < 3 → Lok (z l) ∧ (z l).s = 1) (w : World) :
    Calls Try.prog 32 #[.agg #[.int .i64 ((z 0).s), .int .i64 ((z 0).j), .int .i64 ((z 1).s), .int .i64 ((z 1).j), .int .i64 ((z 2).s), .int .i64 ((z 2).j)], .agg #[.int .i64 (a 0), .int .i64 (b 0), .int .i64 (a 1), .int .i64 (b 1), .int .i64 (a 2), .int .i64 (b 2)], .int .i64 per, .int .i64 dd, .int .i64 per] w fun e w' => ∃ (A : Option Addr) (c : Nat) (y : Nat → Lg) (es : List Ed),
      e = .returned (.tuple #[.agg #[.int .i64 per, .bool ((z 0).s == 2), .bool ((z 0).s == 1), .bool ((z 1).s == 2), .bool ((z 1).s == 1), .bool ((z 2).s == 2), .bool ((z 2).s == 1), .slice A es.length c], .agg #[.int .i64 ((y 0).s), .int .i64 ((y 0).j), .int .i64 ((y 1).s), .int .i64 ((y 1).j), .int .i64 ((y 2).s), .int .i64 ((y 2).j)], .nilIface]) ∧ Sl w' w'.heap.size 3 A (es.map Ed.row) ∧ es.length ≤ 12288 ∧ chk per es = 0 ∧
      (∀ l, l < 3 → tms per (onL z) es l 0 = b l - a l - dd ∧ tms per (onL z) es l 1 = per - (b l - a l) - dd ∧ tms per (onL z) es l 2 = 2 * dd) ∧ (∀ l, l < 3 → Lok (y l) ∧ (y l).s = 1) ∧ Below w.heap.size w w' := by
  have hk : ∀ l, l < 3 → Lok (z l) := fun l hl => (hz l hl).1
  have h0 := h 0 (by omega)
  have h1 := h 1 (by omega)
  have h2 := h 2 (by omega)
  refine (run_walk z a b per dd per w (lok_rng hk hp1 hp2 hd1 hd2) (by omega) (Int.le_refl _) (by omega) (by omega) (by omega) (by omega) (by omega) (by omega) (by omega) (by omega) (by omega) ⟨per, dd, per, a, b, z⟩ rfl).mono ?_
  rintro e w' ⟨A, n, c, rfl, hn, hsl, _, hb⟩
  subst hn
  have hl := fun (l : Nat) (hl : l < 3) => losses (r := ⟨per, dd, per, a, b, z⟩) hl hk hp1 hp2 hd1 hd2 (by have := (h l hl).1; show 1 ≤ a l; omega) (h l hl).2.1 (h l hl).2.2 rfl (hz l hl).2
  have hlen := Rq.es_len ⟨per, dd, per, a, b, z⟩ per.toNat
  exact ⟨A, c, fun l => Rq.at_ ⟨per, dd, per, a, b, z⟩ l per.toNat, _, rfl, hsl, by omega, es_chk hp1 hp2, fun l h3 => ⟨(hl l h3).1, (hl l h3).2.1, (hl l h3).2.2.1⟩, fun l h3 => ⟨Rq.lok3 hk l h3 _, (hl l h3).2.2.2⟩, hb⟩

set_option maxRecDepth 100000 in
set_option maxHeartbeats 6400000 in
theorem gatesLosses_walk (AD : Option Addr) (n cD : Nat) (ds : List Dv) (p0 d0 : Int) (w : World) (hE : Sl w w.heap.size 9 AD (ds.map Dv.row)) (hn : n = ds.length) :
    Calls Try.prog 10 #[.slice AD n cD, .int .i64 p0, .int .i64 d0] w fun e w' => e = .returned (.bool true) ∧ Below w.heap.size w w' := by
  have HN := Lib.hid hn
  clear hn
  by_cases hbig : 8 < n
  · go_enter Try.func10, Try.ntmps10
    go_wp2_with fail
    refine (awakeG_walk _).mono ?_
    rintro e w1 ⟨rfl, hb1⟩
    go_wp2_with fail
    refine (awakeG_walk _).mono ?_
    rintro e w2 ⟨rfl, hb2⟩
    have hb3 := hb1.trans (hb2.mono hb1.size)
    go_wp2
    go_ret
    exact ⟨rfl, hb3⟩
  · have hpb := clipI_bds (n := p0) (lo := 64) (hi := 4096) (by omega)
    obtain ⟨per, hper⟩ : ∃ p, clipI p0 64 4096 = p := ⟨_, rfl⟩
    rw [hper] at hpb
    obtain ⟨hp1, hp2⟩ := hpb
    obtain ⟨q, hq⟩ : ∃ q, per / 8 = q := ⟨_, rfl⟩
    have hq8 : 8 * q ≤ per ∧ 1 ≤ q ∧ q ≤ 512 := by
      rw [← hq]
      omega
    obtain ⟨hq1, hq2, hq3⟩ := hq8
    have hdb := clipI_bds (n := d0) (lo := 1) (hi := q) hq2
    obtain ⟨dd, hdd⟩ : ∃ p, clipI d0 1 q = p := ⟨_, rfl⟩
    rw [hdd] at hdb
    obtain ⟨hd1, hdq⟩ := hdb
    have hd8 : 8 * dd ≤ per := by omega
    have hd2 : dd ≤ 512 := by omega
    have k1 := fun W => lnk_quiet0 p0 64 4096 (by omega) W
    have k2 := fun W => lnk_quiet0 d0 1 q hq2 W
    rw [hper] at k1
    rw [hdd] at k2
    have K1 := hide k1
    have K2 := hide k2
    have HQ := Lib.hid hq
    have hdr := fun (x : Dv) (W : World) => drive_walk x.f x.o x.p x.d x.t per dd W
    simp only [clipI_in (n := per) (lo := 64) (hi := 4096) hp1 hp2, clipI_in (n := dd) (lo := 1) (hi := 1024) hd1 (by omega)] at hdr
    have HDR := hide hdr
    have hcl : ∀ (F O : Int), (dd + 1 ≤ clipI F (dd + 1) (per - 2 * dd - 2)) ∧ clipI F (dd + 1) (per - 2 * dd - 2) + dd + 1 ≤ clipI O (clipI F (dd + 1) (per - 2 * dd - 2) + dd + 1) (per - dd - 1) ∧ clipI O (clipI F (dd + 1) (per - 2 * dd - 2) + dd + 1) (per - dd - 1) + dd + 1 ≤ per := by
      intro F O
      have h1 := clipI_bds (n := F) (lo := dd + 1) (hi := per - 2 * dd - 2) (by omega)
      have h2 := clipI_bds (n := O) (lo := clipI F (dd + 1) (per - 2 * dd - 2) + dd + 1) (hi := per - dd - 1) (by omega)
      omega
    have HCL := Lib.hid hcl
    clear hper hdd k1 k2 hq hdr hcl
    go_enter Try.func10, Try.ntmps10
    go_wp2_with fail
    refine (awakeG_walk _).mono ?_
    rintro e w1 ⟨rfl, hb1⟩
    go_wp2_with fail
    refine ((unhide K1) _).mono ?_
    rintro e w1' ⟨rfl, rfl⟩
    go_wp2_with fail
    rw [HQ.out]
    refine ((unhide K2) _).mono ?_
    rintro e w1' ⟨rfl, rfl⟩
    go_wp2_with fail
    refine (fresh_lit _).mono ?_
    rintro e w2 ⟨rfl, hb2⟩
    have hb3 := hb1.trans (hb2.mono hb1.size)
    clear hb1 hb2
    have lB := hb3.size
    have g0 := Blk.new w2 48 #[.int .i64 0, .int .i64 4096, .int .i64 0, .int .i64 4096, .int .i64 0, .int .i64 4096]
    have hb4 := hb3.alloc hb3.size (.cells #[.int .i64 0, .int .i64 4096, .int .i64 0, .int .i64 4096, .int .i64 0, .int .i64 4096] 48)
    go_wp2
    go_loopw [35] (fun i wr => ((i = .int .i64 0 ∧ Blk wr (w2.heap.size) 48 #[.int .i64 0, .int .i64 4096, .int .i64 0, .int .i64 4096, .int .i64 0, .int .i64 4096]) ∨ (i = .int .i64 1 ∧ Blk wr (w2.heap.size) 48 #[.int .i64 1, .int .i64 4096, .int .i64 0, .int .i64 4096, .int .i64 0, .int .i64 4096]) ∨ (i = .int .i64 2 ∧ Blk wr (w2.heap.size) 48 #[.int .i64 1, .int .i64 4096, .int .i64 1, .int .i64 4096, .int .i64 0, .int .i64 4096]) ∨ (i = .int .i64 3 ∧ Blk wr (w2.heap.size) 48 #[.int .i64 1, .int .i64 4096, .int .i64 1, .int .i64 4096, .int .i64 1, .int .i64 4096])) ∧ Below w.heap.size w wr) (fun i _ => 3 - (intOf i).toNat)
    case atStart => exact ⟨.inl ⟨rfl, g0⟩, hb4⟩
    case round =>
    clear g0 hb4 hb3
    obtain ⟨hdj, hb⟩ := hrel
    rcases hdj with ⟨rfl, g0⟩ | ⟨rfl, g0⟩ | ⟨rfl, g0⟩ | ⟨rfl, g0⟩
    · have lS := g0.lt
      obtain ⟨x0, x1, x2, x3, x4, x5⟩ := g0.c6
      have fd0 := g0.frozen 0
      go_wp2
      go_roundw
      case rel => exact ⟨(.inr (.inl ⟨rfl, g0.set_ 0 (.int .i64 1)⟩)), hb.setCell (by simp <;> omega) _⟩
      case measure => simp [intOf]
    · have lS := g0.lt
      obtain ⟨x0, x1, x2, x3, x4, x5⟩ := g0.c6
      have fd0 := g0.frozen 2
      go_wp2
      go_roundw
      case rel => exact ⟨(.inr (.inr (.inl ⟨rfl, g0.set_ 2 (.int .i64 1)⟩))), hb.setCell (by simp <;> omega) _⟩
      case measure => simp [intOf]
    · have lS := g0.lt
      obtain ⟨x0, x1, x2, x3, x4, x5⟩ := g0.c6
      have fd0 := g0.frozen 4
      go_wp2
      go_roundw
      case rel => exact ⟨(.inr (.inr (.inr ⟨rfl, g0.set_ 4 (.int .i64 1)⟩))), hb.setCell (by simp <;> omega) _⟩
      case measure => simp [intOf]
    · have lS := g0.lt
      go_wp2
      go_loopw [44] (fun i wr => ∃ (k : Nat) (z : Nat → Lg), k ≤ n ∧ i = .int .i64 k ∧ Hid (∀ l, l < 3 → Lok (z l) ∧ (z l).s = 1) ∧ Blk wr (w2.heap.size) 48 #[.int .i64 ((z 0).s), .int .i64 ((z 0).j), .int .i64 ((z 1).s), .int .i64 ((z 1).j), .int .i64 ((z 2).s), .int .i64 ((z 2).j)] ∧ Below w.heap.size w wr) (fun i _ => n - (intOf i).toNat)
      case atStart => exact ⟨0, p3 ⟨1, 4096⟩ ⟨1, 4096⟩ ⟨1, 4096⟩, Nat.zero_le _, rfl, (fun l hl => match l, hl with | 0, _ => ⟨⟨.inr (.inl rfl), by decide, by decide⟩, rfl⟩ | 1, _ => ⟨⟨.inr (.inl rfl), by decide, by decide⟩, rfl⟩ | 2, _ => ⟨⟨.inr (.inl rfl), by decide, by decide⟩, rfl⟩), g0, hb⟩
      case round =>
      clear g0 hb lS
      obtain ⟨k, z, hk, rfl, HZ, g0, hb⟩ := hrel
      obtain ⟨wo, rfl⟩ : ∃ wo : World, wo = wr := ⟨_, rfl⟩
      have lS := g0.lt
      by_cases hlt : k < n
      · obtain ⟨x, hx⟩ : ∃ x, ds[k]? = some x := ⟨_, List.getElem?_eq_getElem (by have := HN.out; omega)⟩
        obtain ⟨ad, p, rfl, hpa, hpb, e0, e1, e2, e3, e4, e5, e6, e7, e8⟩ := ((hE.below hb).nine (k := k) (x0 := .int .i64 (x.f 0)) (x1 := .int .i64 (x.o 0)) (x2 := .int .i64 (x.f 1)) (x3 := .int .i64 (x.o 1)) (x4 := .int .i64 (x.f 2)) (x5 := .int .i64 (x.o 2)) (x6 := .int .i64 x.p) (x7 := .int .i64 x.d) (x8 := .int .i64 x.t) (by rw [List.getElem?_map, hx]; rfl))
        have hpb1 : p.block < wo.heap.size := Nat.lt_of_lt_of_le hpb hb.size
        clear hx
        have hdr := fun W => (unhide HDR) x W
        obtain ⟨F, hF⟩ : ∃ F, dvF x.f per = F := ⟨_, rfl⟩
        obtain ⟨O, hO⟩ : ∃ O, dvO x.f x.o per = O := ⟨_, rfl⟩
        obtain ⟨tt, htt⟩ : ∃ t, clipI x.t 0 per = t := ⟨_, rfl⟩
        rw [hF, hO, htt] at hdr
        clear hF hO htt
        obtain ⟨a, ha⟩ : ∃ a : Nat → Int, (fun l => clipI (F l) (dd + 1) (per - 2 * dd - 2)) = a := ⟨_, rfl⟩
        obtain ⟨b, hb'⟩ : ∃ b : Nat → Int, (fun l => clipI (O l) (a l + dd + 1) (per - dd - 1)) = b := ⟨_, rfl⟩
        have hab : ∀ l, l < 3 → dd + 1 ≤ a l ∧ a l + dd + 1 ≤ b l ∧ b l + dd + 1 ≤ per := fun l _ => by
          have := HCL.out (F l) (O l)
          rw [← hb', ← ha]
          exact this
        have hca := fun (l : Nat) (hl : l < 3) (W : World) => lnk_quiet0 (F l) (dd + 1) (per - 2 * dd - 2) (by omega) W
        have hcb := fun (l : Nat) (hl : l < 3) (W : World) => lnk_quiet0 (O l) (a l + dd + 1) (per - dd - 1) (by have := hab l hl; omega) W
        have ea := fun l => congrFun ha l
        have eb := fun l => congrFun hb' l
        simp only [ea] at hca
        simp only [eb] at hcb
        have HCA := hide hca
        have HCB := hide hcb
        have hru := fun W => run_loss per dd hp1 hp2 hd1 (by omega) a b hab z HZ.out W
        have HRU := hide hru
        unfold cellsD at hdr
        have HDX := hide hdr
        have hab0 := hab 0 (by omega)
        have hab1 := hab 1 (by omega)
        have hab2 := hab 2 (by omega)
        obtain ⟨ha0, hab0, hb0⟩ := hab0
        obtain ⟨ha1, hab1, hb1⟩ := hab1
        obtain ⟨ha2, hab2, hb2⟩ := hab2
        clear hdr hca hcb hru ea eb ha hb' hab
        have r0 := g0.alloc (.cells #[.int .i64 (x.f 0), .int .i64 (x.o 0), .int .i64 (x.f 1), .int .i64 (x.o 1), .int .i64 (x.f 2), .int .i64 (x.o 2), .int .i64 (x.p), .int .i64 (x.d), .int .i64 (x.t)] 53)
        have r1 := Blk.new wo 53 #[.int .i64 (x.f 0), .int .i64 (x.o 0), .int .i64 (x.f 1), .int .i64 (x.o 1), .int .i64 (x.f 2), .int .i64 (x.o 2), .int .i64 (x.p), .int .i64 (x.d), .int .i64 (x.t)]
        have rb := hb.alloc hb.size (.cells #[.int .i64 (x.f 0), .int .i64 (x.o 0), .int .i64 (x.f 1), .int .i64 (x.o 1), .int .i64 (x.f 2), .int .i64 (x.o 2), .int .i64 (x.p), .int .i64 (x.d), .int .i64 (x.t)] 53)
        go_wp2_with fail
        refine ((unhide HDX) _).mono ?_
        rintro e w3 ⟨rfl, hb9⟩
        have s0 := r0.below hb9 r0.lt
        have s1 := r1.below hb9 r1.lt
        have sb := rb.trans (hb9.mono rb.size)
        clear g0 hb r0 r1 rb hb9 HDX e0 e1 e2 e3 e4 e5 e6 e7 e8
        have lX := s1.lt
        obtain ⟨y0, y1, y2, y3, y4, y5, y6, y7, y8⟩ := s1.c9
        have fd0 := s1.frozen 0
        have fd1 := s1.frozen 1
        have fd2 := s1.frozen 2
        have fd3 := s1.frozen 3
        have fd4 := s1.frozen 4
        have fd5 := s1.frozen 5
        have fd6 := s1.frozen 6
        have fd7 := s1.frozen 7
        have fd8 := s1.frozen 8
        have gg0 : Blk _ (wo.heap.size) 53 #[.int .i64 (F 0), .int .i64 (x.o 0), .int .i64 (x.f 1), .int .i64 (x.o 1), .int .i64 (x.f 2), .int .i64 (x.o 2), .int .i64 (x.p), .int .i64 (x.d), .int .i64 (x.t)] := s1.set_ 0 (.int .i64 (F 0))
        have gg1 : Blk _ (wo.heap.size) 53 #[.int .i64 (F 0), .int .i64 (O 0), .int .i64 (x.f 1), .int .i64 (x.o 1), .int .i64 (x.f 2), .int .i64 (x.o 2), .int .i64 (x.p), .int .i64 (x.d), .int .i64 (x.t)] := gg0.set_ 1 (.int .i64 (O 0))
        have gg2 : Blk _ (wo.heap.size) 53 #[.int .i64 (F 0), .int .i64 (O 0), .int .i64 (F 1), .int .i64 (x.o 1), .int .i64 (x.f 2), .int .i64 (x.o 2), .int .i64 (x.p), .int .i64 (x.d), .int .i64 (x.t)] := gg1.set_ 2 (.int .i64 (F 1))
        have gg3 : Blk _ (wo.heap.size) 53 #[.int .i64 (F 0), .int .i64 (O 0), .int .i64 (F 1), .int .i64 (O 1), .int .i64 (x.f 2), .int .i64 (x.o 2), .int .i64 (x.p), .int .i64 (x.d), .int .i64 (x.t)] := gg2.set_ 3 (.int .i64 (O 1))
        have gg4 : Blk _ (wo.heap.size) 53 #[.int .i64 (F 0), .int .i64 (O 0), .int .i64 (F 1), .int .i64 (O 1), .int .i64 (F 2), .int .i64 (x.o 2), .int .i64 (x.p), .int .i64 (x.d), .int .i64 (x.t)] := gg3.set_ 4 (.int .i64 (F 2))
        have gg5 : Blk _ (wo.heap.size) 53 #[.int .i64 (F 0), .int .i64 (O 0), .int .i64 (F 1), .int .i64 (O 1), .int .i64 (F 2), .int .i64 (O 2), .int .i64 (x.p), .int .i64 (x.d), .int .i64 (x.t)] := gg4.set_ 5 (.int .i64 (O 2))
        have gg6 : Blk _ (wo.heap.size) 53 #[.int .i64 (F 0), .int .i64 (O 0), .int .i64 (F 1), .int .i64 (O 1), .int .i64 (F 2), .int .i64 (O 2), .int .i64 per, .int .i64 (x.d), .int .i64 (x.t)] := gg5.set_ 6 (.int .i64 per)
        have gg7 : Blk _ (wo.heap.size) 53 #[.int .i64 (F 0), .int .i64 (O 0), .int .i64 (F 1), .int .i64 (O 1), .int .i64 (F 2), .int .i64 (O 2), .int .i64 per, .int .i64 dd, .int .i64 (x.t)] := gg6.set_ 7 (.int .i64 dd)
        have gg8 : Blk _ (wo.heap.size) 53 #[.int .i64 (F 0), .int .i64 (O 0), .int .i64 (F 1), .int .i64 (O 1), .int .i64 (F 2), .int .i64 (O 2), .int .i64 per, .int .i64 dd, .int .i64 tt] := gg7.set_ 8 (.int .i64 tt)
        have t1 := gg8
        clear gg0 gg1 gg2 gg3 gg4 gg5 gg6 gg7 gg8
        have t0 := (((((((((s0.far (p := ⟨wo.heap.size, 0, none⟩) (by simp <;> omega) (.int .i64 (F 0))).far (p := ⟨wo.heap.size, 1, none⟩) (by simp <;> omega) (.int .i64 (O 0))).far (p := ⟨wo.heap.size, 2, none⟩) (by simp <;> omega) (.int .i64 (F 1))).far (p := ⟨wo.heap.size, 3, none⟩) (by simp <;> omega) (.int .i64 (O 1))).far (p := ⟨wo.heap.size, 4, none⟩) (by simp <;> omega) (.int .i64 (F 2))).far (p := ⟨wo.heap.size, 5, none⟩) (by simp <;> omega) (.int .i64 (O 2))).far (p := ⟨wo.heap.size, 6, none⟩) (by simp <;> omega) (.int .i64 per)).far (p := ⟨wo.heap.size, 7, none⟩) (by simp <;> omega) (.int .i64 dd)).far (p := ⟨wo.heap.size, 8, none⟩) (by simp <;> omega) (.int .i64 tt))
        have tb := (((((((((sb.setCell (p := ⟨wo.heap.size, 0, none⟩) (by simp <;> omega) (.int .i64 (F 0))).setCell (p := ⟨wo.heap.size, 1, none⟩) (by simp <;> omega) (.int .i64 (O 0))).setCell (p := ⟨wo.heap.size, 2, none⟩) (by simp <;> omega) (.int .i64 (F 1))).setCell (p := ⟨wo.heap.size, 3, none⟩) (by simp <;> omega) (.int .i64 (O 1))).setCell (p := ⟨wo.heap.size, 4, none⟩) (by simp <;> omega) (.int .i64 (F 2))).setCell (p := ⟨wo.heap.size, 5, none⟩) (by simp <;> omega) (.int .i64 (O 2))).setCell (p := ⟨wo.heap.size, 6, none⟩) (by simp <;> omega) (.int .i64 per)).setCell (p := ⟨wo.heap.size, 7, none⟩) (by simp <;> omega) (.int .i64 dd)).setCell (p := ⟨wo.heap.size, 8, none⟩) (by simp <;> omega) (.int .i64 tt))
        go_wp2
        go_loopw [52] (fun i wr => ((i = .int .i64 0 ∧ Blk wr (wo.heap.size) 53 #[.int .i64 (F 0), .int .i64 (O 0), .int .i64 (F 1), .int .i64 (O 1), .int .i64 (F 2), .int .i64 (O 2), .int .i64 per, .int .i64 dd, .int .i64 tt]) ∨ (i = .int .i64 1 ∧ Blk wr (wo.heap.size) 53 #[.int .i64 (a 0), .int .i64 (b 0), .int .i64 (F 1), .int .i64 (O 1), .int .i64 (F 2), .int .i64 (O 2), .int .i64 per, .int .i64 dd, .int .i64 tt]) ∨ (i = .int .i64 2 ∧ Blk wr (wo.heap.size) 53 #[.int .i64 (a 0), .int .i64 (b 0), .int .i64 (a 1), .int .i64 (b 1), .int .i64 (F 2), .int .i64 (O 2), .int .i64 per, .int .i64 dd, .int .i64 tt]) ∨ (i = .int .i64 3 ∧ Blk wr (wo.heap.size) 53 #[.int .i64 (a 0), .int .i64 (b 0), .int .i64 (a 1), .int .i64 (b 1), .int .i64 (a 2), .int .i64 (b 2), .int .i64 per, .int .i64 dd, .int .i64 tt])) ∧ Blk wr (w2.heap.size) 48 #[.int .i64 ((z 0).s), .int .i64 ((z 0).j), .int .i64 ((z 1).s), .int .i64 ((z 1).j), .int .i64 ((z 2).s), .int .i64 ((z 2).j)] ∧ Below w.heap.size w wr) (fun i _ => 3 - (intOf i).toNat)
        case atStart => exact ⟨.inl ⟨rfl, t1⟩, t0, tb⟩
        case round =>
        clear s0 s1 sb t0 t1 tb y0 y1 y2 y3 y4 y5 y6 y7 y8 fd0 fd1 fd2 fd3 fd4 fd5 fd6 fd7 fd8 lX
        obtain ⟨hdj, g0, hb⟩ := hrel
        rcases hdj with ⟨rfl, g1⟩ | ⟨rfl, g1⟩ | ⟨rfl, g1⟩ | ⟨rfl, g1⟩
        · obtain ⟨y0, y1, y2, y3, y4, y5, y6, y7, y8⟩ := g1.c9
          have lX := g1.lt
          have fd0 := g1.frozen 0
          have fd1 := g1.frozen 1
          go_wp2_with fail
          refine ((unhide HCA) 0 (by omega) _).mono ?_
          rintro e w6 ⟨rfl, rfl⟩
          go_wp2_with fail
          refine ((unhide HCB) 0 (by omega) _).mono ?_
          rintro e w6 ⟨rfl, rfl⟩
          go_wp2
          go_roundw
          case rel => exact ⟨(.inr (.inl ⟨rfl, (g1.set_ 0 (.int .i64 (a 0))).set_ 1 (.int .i64 (b 0))⟩)), (g0.far (by simp <;> omega) _).far (by simp <;> omega) _, (hb.setCell (by simp <;> omega) _).setCell (by simp <;> omega) _⟩
          case measure => simp [intOf]
        · obtain ⟨y0, y1, y2, y3, y4, y5, y6, y7, y8⟩ := g1.c9
          have lX := g1.lt
          have fd0 := g1.frozen 2
          have fd1 := g1.frozen 3
          go_wp2_with fail
          refine ((unhide HCA) 1 (by omega) _).mono ?_
          rintro e w6 ⟨rfl, rfl⟩
          go_wp2_with fail
          refine ((unhide HCB) 1 (by omega) _).mono ?_
          rintro e w6 ⟨rfl, rfl⟩
          go_wp2
          go_roundw
          case rel => exact ⟨(.inr (.inr (.inl ⟨rfl, (g1.set_ 2 (.int .i64 (a 1))).set_ 3 (.int .i64 (b 1))⟩))), (g0.far (by simp <;> omega) _).far (by simp <;> omega) _, (hb.setCell (by simp <;> omega) _).setCell (by simp <;> omega) _⟩
          case measure => simp [intOf]
        · obtain ⟨y0, y1, y2, y3, y4, y5, y6, y7, y8⟩ := g1.c9
          have lX := g1.lt
          have fd0 := g1.frozen 4
          have fd1 := g1.frozen 5
          go_wp2_with fail
          refine ((unhide HCA) 2 (by omega) _).mono ?_
          rintro e w6 ⟨rfl, rfl⟩
          go_wp2_with fail
          refine ((unhide HCB) 2 (by omega) _).mono ?_
          rintro e w6 ⟨rfl, rfl⟩
          go_wp2
          go_roundw
          case rel => exact ⟨(.inr (.inr (.inr ⟨rfl, (g1.set_ 4 (.int .i64 (a 2))).set_ 5 (.int .i64 (b 2))⟩))), (g0.far (by simp <;> omega) _).far (by simp <;> omega) _, (hb.setCell (by simp <;> omega) _).setCell (by simp <;> omega) _⟩
          case measure => simp [intOf]
        · have HNQ := hide neq_ints3
          obtain ⟨x0, x1, x2, x3, x4, x5⟩ := g0.c6
          obtain ⟨y0, y1, y2, y3, y4, y5, y6, y7, y8⟩ := g1.c9
          have lX := g1.lt
          have lSa := g0.lt
          go_wp2_with fail
          refine ((unhide HRU) _).mono ?_
          rintro e w6 ⟨A, c, y, es, rfl, hsl, hl2, hck, htm, hy, hb9⟩
          have hbA := hb.trans (hb9.mono hb.size)
          have g05 := g0.below hb9 g0.lt
          have g15 := g1.below hb9 g1.lt
          have hti := fun (W : World) (hE : Sl W W.heap.size 3 A (es.map Ed.row)) => times_walk per ((z 0).s == 2) ((z 0).s == 1) ((z 1).s == 2) ((z 1).s == 1) ((z 2).s == 2) ((z 2).s == 1) A es.length c es W hE rfl (by omega)
          have hon : [(z 0).s == 2, (z 0).s == 1, (z 1).s == 2, (z 1).s == 1, (z 2).s == 2, (z 2).s == 1] = onL z := rfl
          rw [hon] at hti
          simp only [(htm 0 (by omega)).1, (htm 0 (by omega)).2.1, (htm 0 (by omega)).2.2, (htm 1 (by omega)).1, (htm 1 (by omega)).2.1, (htm 1 (by omega)).2.2, (htm 2 (by omega)).1, (htm 2 (by omega)).2.1, (htm 2 (by omega)).2.2, hck, errV_zero] at hti
          have HTI := hide hti
          have HY := Lib.hid hy
          clear g0 g1 hb hb9 hti hon htm hck hy x0 x1 x2 x3 x4 x5 y0 y1 y2 y3 y4 y5 y6 y7 y8 lX lSa
          have r0 := (g05.alloc (.cells #[.int .i64 per, .bool ((z 0).s == 2), .bool ((z 0).s == 1), .bool ((z 1).s == 2), .bool ((z 1).s == 1), .bool ((z 2).s == 2), .bool ((z 2).s == 1), .slice A es.length c] 25)).alloc (.cells #[.int .i64 ((y 0).s), .int .i64 ((y 0).j), .int .i64 ((y 1).s), .int .i64 ((y 1).j), .int .i64 ((y 2).s), .int .i64 ((y 2).j)] 48)
          have r1 := (g15.alloc (.cells #[.int .i64 per, .bool ((z 0).s == 2), .bool ((z 0).s == 1), .bool ((z 1).s == 2), .bool ((z 1).s == 1), .bool ((z 2).s == 2), .bool ((z 2).s == 1), .slice A es.length c] 25)).alloc (.cells #[.int .i64 ((y 0).s), .int .i64 ((y 0).j), .int .i64 ((y 1).s), .int .i64 ((y 1).j), .int .i64 ((y 2).s), .int .i64 ((y 2).j)] 48)
          have rY := Blk.new' (w := w6.alloc (.cells #[.int .i64 per, .bool ((z 0).s == 2), .bool ((z 0).s == 1), .bool ((z 1).s == 2), .bool ((z 1).s == 1), .bool ((z 2).s == 2), .bool ((z 2).s == 1), .slice A es.length c] 25)) (t := 48) (cs := #[.int .i64 ((y 0).s), .int .i64 ((y 0).j), .int .i64 ((y 1).s), .int .i64 ((y 1).j), .int .i64 ((y 2).s), .int .i64 ((y 2).j)]) (g := w6.heap.size + 1) (by simp)
          have rE : Sl ((w6.alloc (.cells #[.int .i64 per, .bool ((z 0).s == 2), .bool ((z 0).s == 1), .bool ((z 1).s == 2), .bool ((z 1).s == 1), .bool ((z 2).s == 2), .bool ((z 2).s == 1), .slice A es.length c] 25)).alloc (.cells #[.int .i64 ((y 0).s), .int .i64 ((y 0).j), .int .i64 ((y 1).s), .int .i64 ((y 1).j), .int .i64 ((y 2).s), .int .i64 ((y 2).j)] 48)) ((w6.alloc (.cells #[.int .i64 per, .bool ((z 0).s == 2), .bool ((z 0).s == 1), .bool ((z 1).s == 2), .bool ((z 1).s == 1), .bool ((z 2).s == 2), .bool ((z 2).s == 1), .slice A es.length c] 25)).alloc (.cells #[.int .i64 ((y 0).s), .int .i64 ((y 0).j), .int .i64 ((y 1).s), .int .i64 ((y 1).j), .int .i64 ((y 2).s), .int .i64 ((y 2).j)] 48)).heap.size 3 A (es.map Ed.row) := ((hsl.alloc (Nat.le_refl _) (.cells #[.int .i64 per, .bool ((z 0).s == 2), .bool ((z 0).s == 1), .bool ((z 1).s == 2), .bool ((z 1).s == 1), .bool ((z 2).s == 2), .bool ((z 2).s == 1), .slice A es.length c] 25)).alloc (by simp) (.cells #[.int .i64 ((y 0).s), .int .i64 ((y 0).j), .int .i64 ((y 1).s), .int .i64 ((y 1).j), .int .i64 ((y 2).s), .int .i64 ((y 2).j)] 48)).more (by simp <;> omega)
          have rb := (hbA.alloc hbA.size (.cells #[.int .i64 per, .bool ((z 0).s == 2), .bool ((z 0).s == 1), .bool ((z 1).s == 2), .bool ((z 1).s == 1), .bool ((z 2).s == 2), .bool ((z 2).s == 1), .slice A es.length c] 25)).alloc (by have := hbA.size; simp <;> omega) (.cells #[.int .i64 ((y 0).s), .int .i64 ((y 0).j), .int .i64 ((y 1).s), .int .i64 ((y 1).j), .int .i64 ((y 2).s), .int .i64 ((y 2).j)] 48)
          go_wp2_with fail
          refine ((unhide HTI) _ rE).mono ?_
          rintro e w8 ⟨rfl, hb8⟩
          have s0 := r0.below hb8 r0.lt
          have s1 := r1.below hb8 r1.lt
          have sY := rY.below hb8 rY.lt
          have sb := rb.trans (hb8.mono rb.size)
          clear r0 r1 rY rE rb hb8 g05 g15 hbA HTI hsl hl2
          have lX := s1.lt
          have lXa : wo.heap.size < w8.heap.size + 1 := by omega
          have lSa := s0.lt
          have lY := sY.lt
          obtain ⟨y0, y1, y2, y3, y4, y5, y6, y7, y8⟩ := s1.c9
          have iy0 := idx51_0 (.int .i64 (a 0)) (.int .i64 (b 0)) (.int .i64 (a 1)) (.int .i64 (b 1)) (.int .i64 (a 2)) (.int .i64 (b 2))
          have iy1 := idx51_1 (.int .i64 (a 0)) (.int .i64 (b 0)) (.int .i64 (a 1)) (.int .i64 (b 1)) (.int .i64 (a 2)) (.int .i64 (b 2))
          have iy2 := idx51_2 (.int .i64 (a 0)) (.int .i64 (b 0)) (.int .i64 (a 1)) (.int .i64 (b 1)) (.int .i64 (a 2)) (.int .i64 (b 2))
          go_wp2
          go_loopw [112] (fun i wr => (i = .int .i64 0 ∨ i = .int .i64 1 ∨ i = .int .i64 2 ∨ i = .int .i64 3) ∧ Blk wr (w8.heap.size) 66 #[.int .i64 (b 0 - a 0 - dd), .int .i64 (per - (b 0 - a 0) - dd), .int .i64 (2 * dd), .int .i64 (b 1 - a 1 - dd), .int .i64 (per - (b 1 - a 1) - dd), .int .i64 (2 * dd), .int .i64 (b 2 - a 2 - dd), .int .i64 (per - (b 2 - a 2) - dd), .int .i64 (2 * dd)] ∧ Blk wr (w6.heap.size + 1) 48 #[.int .i64 ((y 0).s), .int .i64 ((y 0).j), .int .i64 ((y 1).s), .int .i64 ((y 1).j), .int .i64 ((y 2).s), .int .i64 ((y 2).j)] ∧ Blk wr (w2.heap.size) 48 #[.int .i64 ((z 0).s), .int .i64 ((z 0).j), .int .i64 ((z 1).s), .int .i64 ((z 1).j), .int .i64 ((z 2).s), .int .i64 ((z 2).j)] ∧ Below w.heap.size w wr) (fun i _ => 3 - (intOf i).toNat)
          case atStart => exact ⟨.inl rfl, Blk.new _ _ _, sY.alloc _, s0.alloc _, sb.alloc sb.size _⟩
          case round =>
          clear s0 s1 sY sb lX lXa lSa lY y0 y1 y2 y3 y4 y5 y6 y7 y8
          obtain ⟨hdj, gT, gY, g0, hb⟩ := hrel
          have lT := gT.lt
          have lY := gY.lt
          have lSa := g0.lt
          obtain ⟨x0, x1, x2, x3, x4, x5⟩ := gY.c6
          rcases hdj with rfl | rfl | rfl | rfl
          · have nq0 := (unhide HNQ) (b 0 - a 0 - dd) (per - (b 0 - a 0) - dd) (2 * dd)
            obtain ⟨t0, t1, t2, t3, t4, t5, t6, t7, t8⟩ := gT.c9
            have ew1 : IntKind.i64.wrap (b 0 - a 0) = b 0 - a 0 := IntWalk.i64_in _ (by omega)
            have ew2 : IntKind.i64.wrap (b 0 - a 0 - dd) = b 0 - a 0 - dd := IntWalk.i64_in _ (by omega)
            have ew3 : IntKind.i64.wrap (per - (b 0 - a 0)) = per - (b 0 - a 0) := IntWalk.i64_in _ (by omega)
            have ew4 : IntKind.i64.wrap (per - (b 0 - a 0) - dd) = per - (b 0 - a 0) - dd := IntWalk.i64_in _ (by omega)
            have ew5 : IntKind.i64.wrap (2 * dd) = 2 * dd := IntWalk.i64_in _ (by omega)
            rw [(HY.out 0 (by omega)).2] at x0
            go_wp2
            go_quiet (fail)
            go_wp2
            go_roundw
            case rel => exact ⟨.inr (.inl rfl), (gT.alloc _).drewN nq, (gY.alloc _).drewN nq, (g0.alloc _).drewN nq, below_drewN (hb.alloc (by have := hb.size; omega) _) nq⟩
            case measure => simp [intOf]
          · have nq0 := (unhide HNQ) (b 1 - a 1 - dd) (per - (b 1 - a 1) - dd) (2 * dd)
            obtain ⟨t0, t1, t2, t3, t4, t5, t6, t7, t8⟩ := gT.c9
            have ew1 : IntKind.i64.wrap (b 1 - a 1) = b 1 - a 1 := IntWalk.i64_in _ (by omega)
            have ew2 : IntKind.i64.wrap (b 1 - a 1 - dd) = b 1 - a 1 - dd := IntWalk.i64_in _ (by omega)
            have ew3 : IntKind.i64.wrap (per - (b 1 - a 1)) = per - (b 1 - a 1) := IntWalk.i64_in _ (by omega)
            have ew4 : IntKind.i64.wrap (per - (b 1 - a 1) - dd) = per - (b 1 - a 1) - dd := IntWalk.i64_in _ (by omega)
            have ew5 : IntKind.i64.wrap (2 * dd) = 2 * dd := IntWalk.i64_in _ (by omega)
            rw [(HY.out 1 (by omega)).2] at x2
            go_wp2
            go_quiet (fail)
            go_wp2
            go_roundw
            case rel => exact ⟨.inr (.inr (.inl rfl)), (gT.alloc _).drewN nq, (gY.alloc _).drewN nq, (g0.alloc _).drewN nq, below_drewN (hb.alloc (by have := hb.size; omega) _) nq⟩
            case measure => simp [intOf]
          · have nq0 := (unhide HNQ) (b 2 - a 2 - dd) (per - (b 2 - a 2) - dd) (2 * dd)
            obtain ⟨t0, t1, t2, t3, t4, t5, t6, t7, t8⟩ := gT.c9
            have ew1 : IntKind.i64.wrap (b 2 - a 2) = b 2 - a 2 := IntWalk.i64_in _ (by omega)
            have ew2 : IntKind.i64.wrap (b 2 - a 2 - dd) = b 2 - a 2 - dd := IntWalk.i64_in _ (by omega)
            have ew3 : IntKind.i64.wrap (per - (b 2 - a 2)) = per - (b 2 - a 2) := IntWalk.i64_in _ (by omega)
            have ew4 : IntKind.i64.wrap (per - (b 2 - a 2) - dd) = per - (b 2 - a 2) - dd := IntWalk.i64_in _ (by omega)
            have ew5 : IntKind.i64.wrap (2 * dd) = 2 * dd := IntWalk.i64_in _ (by omega)
            rw [(HY.out 2 (by omega)).2] at x4
            go_wp2
            go_quiet (fail)
            go_wp2
            go_roundw
            case rel => exact ⟨.inr (.inr (.inr rfl)), (gT.alloc _).drewN nq, (gY.alloc _).drewN nq, (g0.alloc _).drewN nq, below_drewN (hb.alloc (by have := hb.size; omega) _) nq⟩
            case measure => simp [intOf]
          · obtain ⟨v0, v1, v2, v3, v4, v5⟩ := g0.c6
            have fs0 := g0.frozen 0
            have fs1 := g0.frozen 1
            have fs2 := g0.frozen 2
            have fs3 := g0.frozen 3
            have fs4 := g0.frozen 4
            have fs5 := g0.frozen 5
            have k0 : Blk _ (w2.heap.size) 48 #[.int .i64 ((y 0).s), .int .i64 ((y 0).j), .int .i64 ((y 1).s), .int .i64 ((y 1).j), .int .i64 ((y 2).s), .int .i64 ((y 2).j)] := ((((((g0.set_ 0 (.int .i64 ((y 0).s))).set_ 1 (.int .i64 ((y 0).j))).set_ 2 (.int .i64 ((y 1).s))).set_ 3 (.int .i64 ((y 1).j))).set_ 4 (.int .i64 ((y 2).s))).set_ 5 (.int .i64 ((y 2).j)))
            have kb := ((((((hb.setCell (p := ⟨w2.heap.size, 0, none⟩) (by simp <;> omega) (.int .i64 ((y 0).s))).setCell (p := ⟨w2.heap.size, 1, none⟩) (by simp <;> omega) (.int .i64 ((y 0).j))).setCell (p := ⟨w2.heap.size, 2, none⟩) (by simp <;> omega) (.int .i64 ((y 1).s))).setCell (p := ⟨w2.heap.size, 3, none⟩) (by simp <;> omega) (.int .i64 ((y 1).j))).setCell (p := ⟨w2.heap.size, 4, none⟩) (by simp <;> omega) (.int .i64 ((y 2).s))).setCell (p := ⟨w2.heap.size, 5, none⟩) (by simp <;> omega) (.int .i64 ((y 2).j)))
            go_wp2
            go_roundw
            case rel => exact ⟨k + 1, y, by omega, by go_num, HY, k0, kb⟩
            case measure => simp [intOf]; omega
      · obtain rfl : k = n := by omega
        go_wp2
        go_ret
        exact ⟨rfl, hb⟩

end Go.Proofs.Ytgnojdiecgfeaaa
