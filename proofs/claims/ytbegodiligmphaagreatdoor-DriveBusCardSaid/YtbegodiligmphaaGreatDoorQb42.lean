/- Part of the proof of BusProof. The walk of the statement DriveBus. -/
import Derived.BigQuiet
import Derived.Test.YtbegodiligmphaaGreatDoorQb37
import Derived.Test.YtbegodiligmphaaGreatDoorQb41
namespace Go.Proofs.YtbegodiligmphaaGreatDoor
open Go Go.RowKit Sy
set_option maxRecDepth 100000 in
set_option maxHeartbeats 3200000 in
theorem driveBus_none {T : Nat → TypeId} (k dd tm n la : Int) (hk : 0 ≤ k ∧ k ≤ 255) (hdd : 0 ≤ dd ∧ dd ≤ 255) (hto : 0 ≤ tm ∧ tm ≤ 255) (hn : 0 ≤ n ∧ n ≤ 255) (hla : 0 ≤ la ∧ la ≤ 65535) (m : Int) (hm : 0 ≤ m ∧ m ≤ 255) (w : World) (hT : Tabs T w) :
  Calls Tryz.prog 8 #[.agg #[.int .u8 k,.int .u8 dd,.int .u8 tm,.int .u8 n,.int .u16 la],.bool false,.int .u8 m] w fun e w'=>e = .returned (.bool true) ∧ Below w.heap.size w w' := by
 have HB := Below.refl w.heap.size w
 have hw3 := hT.size
 obtain ⟨w1,eW1,sW1,rs,hb⟩ := box w #[.int .u8 k,.int .u8 dd,.int .u8 tm,.int .u8 n,.int .u16 la] 65 (g := w.heap.size) rfl HB (Nat.le_refl _)
 replace HB := hb
 clear hb
 go_enter Tryz.func8,Tryz.ntmps8
 go_wp2_with fail
 with_reducible refine (awake_walk (hT.below HB hw3)).mono ?_
 rintro e w2 ⟨rfl,hq2,hT2⟩
 replace rs := rs.below hq2 rs.lt
 replace HB := HB.trans (hq2.mono HB.size)
 have s2 := HB.size
 clear eW1 sW1
 go_wp2_with (first | (refine wpList_load_row rfl 65 _ rfl (w.heap.size) rfl _ _ _ _ rs Tryz.underlying65 rfl (by kernel_rfl) ?_))
 with_reducible refine (config_walk hT2 k dd tm n la hk hdd hto hn hla).mono ?_
 rintro e w3 ⟨L,c,K,xs,cs,rfl,F,hc,hC,hcc,hK,hq3,hT3⟩
 replace HB := HB.trans (hq3.mono HB.size)
 clear rs
 have s3 := HB.size
 have H3 := Below.refl w3.heap.size w3
 have hsz := hcc.size
 obtain ⟨w4,eW4,sW4,rz,hb⟩ := box w3 Tryz.zeroCells49 49 (g := w3.heap.size) rfl HB (by omega)
 replace H3 : Below w3.heap.size w3 w4 := eW4 ▸ H3.alloc H3.size _
 replace HB := hb
 clear hb
 obtain ⟨w5,eW5,sW5,rc,hb⟩ := rowX rz (List.toArray cs) (n := w3.heap.size + 1) sW4 HB (by omega)
 replace HB := hb
 clear hb
 replace H3 : Below w3.heap.size w3 w5 := eW5 ▸ below_row H3 (Nat.le_refl _)
 have hst := run_storeCfg (P := Tryz.prog) rz (by rw [hsz]; kernel_rfl) (one_cells hcc)
 rw [eW5] at hst
 go_wp2_with (first | (refine wpList_load_row rfl 49 _ rfl (w3.heap.size) rfl _ _ _ _ rc Tryz.underlying49 rfl (by rw [List.size_toArray,hcc.size]; kernel_rfl) ?_))
 have hT5 := hT3.below H3 (by omega)
 have hC5 := hC.keep F.tabs H3.size fun x hx=>H3.block x (by rcases hx with hx | hx; exact (hC.low x hx).2; omega)
 with_reducible refine (hC5.fresh F hT5).mono ?_
 rintro e w6 ⟨d,fl,S,rfl,hD,_,hT6,hS,hk6,hs6,hio6⟩
 have hs5 := HB.size
 have hq23 := hq2.size
 have hq3s := hq3.size
 have hKlow : ∀ x,K x → w.heap.size ≤ x ∧ x < w3.heap.size := fun x hx=>by
  have h1 := hK x hx
  have h2 := (hC.low x hx).2
  exact ⟨by omega,h2⟩
 replace rc := rc.at_ (hk6 _ (by omega) fun h=>by have := (hKlow _ h).2; omega)
 replace HB : Below w.heap.size w w6 := HB.trans ⟨hio6.os,hio6.tape,hio6.output,hs6,fun x hx=>hk6 x (by omega) fun h=>by have := (hKlow x h).1; omega⟩
 have hNs := fresh_nums F hC.dom
 obtain ⟨tm',htm⟩ : ∃ y,ofL xs 4 = y := ⟨_,rfl⟩
 have hc72 := hcc.timeout
 rw [htm] at hNs hc72
 generalize freshL L (L.ent Cfr 20 6000 fFresh xs) = N at *
 have dv : Dv T w.heap.size d N [w3.heap.size] w6 := ⟨⟨S,hD,fun x hx=>by have := hS x hx; omega,fun x hx h=>by have h1 := hS _ h; simp only [List.mem_singleton] at hx; omega⟩,hT6⟩
 clear hst eW4 eW5 rz hC hC5 hD hk6 hS
 have H6 := Below.refl w6.heap.size w6
 have s6 := HB.size
 obtain ⟨w7,eW7,sW7,rm,hb⟩ := box w6 #[.int .u8 0,.int .u8 0,.int .i32 0,.int .i16 0,.int .i16 0,.int .i16 0,.int .i16 0,.int .u16 1] 105 (g := w6.heap.size) rfl HB (by omega)
 replace H6 : Below w6.heap.size w6 w7 := eW7 ▸ H6.alloc H6.size _
 replace rc := rc.al2 eW7
 replace HB := hb
 clear hb
 obtain ⟨w8,eW8,sW8,rd,hb⟩ := box w7 #[.bool false,.bool false] 77 (g := w6.heap.size + 1) sW7 HB (by omega)
 replace H6 : Below w6.heap.size w6 w8 := eW8 ▸ H6.alloc H6.size _
 replace rc := rc.al2 eW8
 replace rm := rm.al2 eW8
 replace HB := hb
 clear hb
 have rd0 := rd.cell 0
 have rd1 := rd.cell 1
 have fr0 := rd.frozen 0
 have fr1 := rd.frozen 1
 go_wp2_with fail
 obtain ⟨w9,hw9⟩ : ∃ W,((w8.setCell ⟨w6.heap.size + 1,0,none⟩ (.bool false)).setCell ⟨w6.heap.size + 1,1,none⟩ (.bool false)) = W := ⟨_,rfl⟩
 have rc3 : w3.heap.size < w6.heap.size := by omega
 replace rd : Blk w9 (w6.heap.size + 1) 77 #[.bool false,.bool false] := hw9 ▸ ((rd.set_ 0 _).set_ 1 _)
 replace rm : Blk w9 w6.heap.size 105 #[.int .u8 0,.int .u8 0,.int .i32 0,.int .i16 0,.int .i16 0,.int .i16 0,.int .i16 0,.int .u16 1] := hw9 ▸ ((rm.far (by simp) _).far (by simp) _)
 replace rc : Blk w9 w3.heap.size 49 (List.toArray cs) := hw9 ▸ ((rc.far (by simp; omega) _).far (by simp; omega) _)
 replace HB : Below w.heap.size w w9 := hw9 ▸ ((HB.setCell (by simp; omega) _).setCell (by simp; omega) _)
 replace H6 : Below w6.heap.size w6 w9 := hw9 ▸ ((H6.setCell (by simp) _).setCell (by simp) _)
 simp only [hw9]
 replace dv : Dv T w.heap.size d N [w6.heap.size + 1,w6.heap.size,w3.heap.size] w9 := ((dv.new (g := w6.heap.size) (Nat.le_refl _)).new (g := w6.heap.size + 1) (by omega)).toq H6.size (fun x hx _=>H6.block x hx) (fun x hx=>by simp only [List.mem_cons,List.not_mem_nil,or_false] at hx; omega)
 clear eW7 eW8 rd0 rd1 fr0 fr1 hw9
 have hm5 : 0 ≤ m % 5 ∧ m % 5 < 5 := by omega
 obtain ⟨bd,hbd⟩ : ∃ x,tm' + m % 5 = x := ⟨_,rfl⟩
 go_loopw [13] (fun i wr=>∃ (j : Nat) (N : List Int) (r0 r1 : Bool),1 ≤ j ∧ (j : Int) ≤ bd + 1 ∧ i = .int .i64 j ∧ Dv T w.heap.size d N [w6.heap.size + 1,w6.heap.size,w3.heap.size] wr ∧ Blk wr w3.heap.size 49 (List.toArray cs) ∧
   Blk wr w6.heap.size 105 #[.int .u8 0,.int .u8 0,.int .i32 0,.int .i16 0,.int .i16 0,.int .i16 0,.int .i16 0,.int .u16 1] ∧ Blk wr (w6.heap.size + 1) 77 #[.bool r0,.bool r1] ∧ ofL N 76 = min ((j : Int) - 1) (tm' + 1) ∧ ofL N 19 = tm' ∧ Below w.heap.size w wr ∧ w9.heap.size ≤ wr.heap.size) (fun i _=>bd.toNat + 1 - (intOf i).toNat)
 case atStart=>exact ⟨1,N,false,false,Nat.le_refl _,by omega,rfl,dv,rc,rm,rd,by rw [hNs.1]; omega,hNs.2.1,HB,Nat.le_refl _⟩
 case round =>
 obtain ⟨j,N2,r0,r1,hj1,hjb,rfl,dv2,rc2,rm2,rd2,n76,n19,HB2,s2'⟩ := hrel
 have c72 := rc2.cell 72
 rw [List.getElem?_toArray,hc72] at c72
 have lr := rc2.lt
 have lm := rm2.lt
 have ld := rd2.lt
 have hn' : 64 ≤ c ∧ c ≤ 16384 := by omega
 have hBs := HB2.size
 by_cases hlt : (j : Int) ≤ bd
 ·go_wp2_with (first | (refine wpList_load_row rfl 49 _ rfl (w3.heap.size) rfl _ _ _ _ rc2 Tryz.underlying49 rfl (by rw [List.size_toArray,hcc.size]; kernel_rfl) ?_) | (refine wpList_load_row rfl 105 _ rfl (w6.heap.size) rfl _ _ _ _ rm2 Tryz.underlying105 rfl (by kernel_rfl) ?_) | (refine wpList_load_row rfl 77 _ rfl (w6.heap.size + 1) rfl _ _ _ _ rd2 Tryz.underlying77 rfl (by kernel_rfl) ?_))
  with_reducible refine (input_none dv2.tabs hcc hn' r0 r1).mono ?_
  rintro e w10 ⟨a,b,rfl,hq10,hT10⟩
  obtain ⟨iv,hiv⟩ : ∃ v,Value.agg (inVs (ofL (busIn a b)) ++ [Value.slice none 0 0]).toArray = v := ⟨_,rfl⟩
  have hq10s := hq10.size
  have tk := tick_any hold_m29p m29p_ok outs_bus.1 dom_in.1 (by decide) outs_ok.1 dv2 hq10 hBs (fun x hx=>by simp only [List.mem_cons,List.not_mem_nil,or_false] at hx; omega) a b (Fr := none) (fun _ h=>by cases h) (fun x hx=>.inl hx) (fv := Value.slice none 0 0) (fun _ _ _=>rfl)
   (P := fun N'=>ofL N' 76 = min (j : Int) (tm' + 1) ∧ (truth (ofL N' 112) = true ↔ tm' < (j : Int)) ∧ ofL N' 19 = tm') (fun E h1 h2=>by
    obtain ⟨f1,f2,f3⟩ := facts_of m29p_defs rs_p h1 h2 (by omega) (by omega)
    exact ⟨by rw [f1,n76,n19]; omega,by rw [f2,n76,n19]; omega,by rw [f3,n19]⟩)
  rw [hiv] at tk ⊢
  go_wp2_with fail
  with_reducible refine tk.mono ?_
  rintro e w11 ⟨co,N3,q0,q1,rfl,hl11,hone,h8,h9,⟨p76,p112,p19⟩,dv3,sz3,kB,kf,io3⟩
  replace HB2 := (HB2.trans (hq10.mono hBs)).trans ⟨io3.os,io3.tape,io3.output,sz3,fun x hx=>kB x hx⟩
  replace rc2 := (rc2.at_ (hq10.block _ lr)).at_ (kf _ (by simp))
  replace rm2 := (rm2.at_ (hq10.block _ lm)).at_ (kf _ (by simp))
  replace rd2 := (rd2.at_ (hq10.block _ ld)).at_ (kf _ (by simp))
  have H11 := Below.refl w11.heap.size w11
  have s11 := HB2.size
  obtain ⟨w12,eW12,sW12,rz,hb⟩ := box w11 #[.int .i64 0,.bool false,.bool false,.bool false,.bool false,.bool false,.bool false,.slice none 0 0,.bool false,.bool false,.slice none 0 0] 80 (g := w11.heap.size) rfl HB2 (by omega)
  replace H11 : Below w11.heap.size w11 w12 := eW12 ▸ H11.alloc H11.size _
  replace HB2 := hb
  clear hb
  obtain ⟨w13,eW13,sW13,ro,hb⟩ := rowX rz (List.toArray co) (n := w11.heap.size + 1) sW12 HB2 (by omega)
  replace HB2 := hb
  clear hb
  replace H11 : Below w11.heap.size w11 w13 := eW13 ▸ below_row H11 (Nat.le_refl _)
  have hst := run_storeCfg (P := Tryz.prog) rz (by rw [hl11]; kernel_rfl) hone
  rw [eW13] at hst
  replace dv3 : Dv T w.heap.size d N3 [w11.heap.size,w6.heap.size + 1,w6.heap.size,w3.heap.size] w13 := (dv3.new (g := w11.heap.size) (Nat.le_refl _)).toq H11.size (fun x hx _=>H11.block x hx) (fun x hx=>by simp only [List.mem_cons,List.not_mem_nil,or_false] at hx; omega)
  replace rc2 := rc2.at_ (H11.block _ (by omega))
  replace rm2 := rm2.at_ (H11.block _ (by omega))
  replace rd2 := rd2.at_ (H11.block _ (by omega))
  go_wp2_with fail
  with_reducible refine (dv3.faults (by omega) (fun x hx=>by simp only [List.mem_cons,List.not_mem_nil,or_false] at hx; omega)).mono ?_
  rintro e w14 ⟨A,cA,X,cx,Y,ny,cy,rfl,hcA,hAl,hA,dv4,sz4,kB4,kf4,io4⟩
  replace HB2 := HB2.trans ⟨io4.os,io4.tape,io4.output,sz4,fun x hx=>kB4 x hx⟩
  replace rc2 := rc2.at_ (kf4 _ (by simp))
  replace rm2 := rm2.at_ (kf4 _ (by simp))
  replace rd2 := rd2.at_ (kf4 _ (by simp))
  replace ro := ro.at_ (kf4 _ (by simp))
  have s14 := HB2.size
  have H14 := Below.refl w14.heap.size w14
  obtain ⟨w15,eW15,sW15,rf,hb⟩ := box w14 #[.slice (some ⟨A,0,none⟩) 11 cA,.slice X 11 cx,.int .i64 (ofL N3 63),.int .i64 (ofL N3 64),.slice Y ny cy] 112 (g := w14.heap.size) rfl HB2 (by omega)
  replace H14 : Below w14.heap.size w14 w15 := eW15 ▸ H14.alloc H14.size _
  replace HB2 := hb
  clear hb
  have hact : truth (ofL N3 112) = decide (tm' < (j : Int)) := by
   by_cases h : tm' < (j : Int)
   ·rw [decide_eq_true h]; exact p112.2 h
   ·rw [decide_eq_false h]; cases hh : truth (ofL N3 112) with
    | false=>rfl
    | true=>exact absurd (p112.1 hh) h
  have hA0 : w15.cell? ⟨A,0,none⟩ = some (.bool (decide (tm' < (j : Int)))) := by
   rw [← hact]
   exact (World.cell?_of_block (w := w14) (H14.block A hAl)).trans (hA 0 (by decide))
  have lc2 := rc2.lt
  have lm2 := rm2.lt
  have ld2 := rd2.lt
  have lo2 := ro.lt
  replace dv4 : Dv T w.heap.size d N3 [w6.heap.size + 1,w6.heap.size,w3.heap.size] w15 := (dv4.toq H14.size (fun x hx _=>H14.block x hx) (fun x hx=>by simp only [List.mem_cons,List.not_mem_nil,or_false] at hx; omega)).less (fun x hx=>List.mem_cons_of_mem _ hx)
  replace rc2 := rc2.at_ (H14.block _ lc2)
  replace rm2 := rm2.at_ (H14.block _ lm2)
  replace rd2 := rd2.at_ (H14.block _ ld2)
  replace ro := ro.at_ (H14.block _ lo2)
  have f0 := rf.cell 0
  have c72' := rc2.cell 72
  rw [List.getElem?_toArray,hc72] at c72'
  have o8 := ro.cell 8
  have o9 := ro.cell 9
  rw [List.getElem?_toArray,h8] at o8
  rw [List.getElem?_toArray,h9] at o9
  have d0 := rd2.cell 0
  have d1 := rd2.cell 1
  have fd0 := rd2.frozen 0
  have fd1 := rd2.frozen 1
  clear hst c72 tk hA p112
  go_wp2_with fail
  by_cases hj : tm' < (j : Int)
  ·rw [decide_eq_true hj] at hA0
   have hd : decide (tm' < (j : Int)) = true := decide_eq_true hj
   go_quiet (fail)
   go_wp2_with fail
   go_roundw
   case rel =>
    have hne : ∀ x,x ∉ [w6.heap.size + 1,w6.heap.size,w3.heap.size] → x ≠ w6.heap.size + 1 := fun x hx e=>hx (by rw [e]; simp)
    refine ⟨j + 1,N3,q0,q1,by omega,by push_cast; omega,by push_cast; rfl,dv4.toq (by simp) (fun x _ hf=>(Below.heap_setCell _ _ _ x (hne x hf)).trans (Below.heap_setCell _ _ _ x (hne x hf))) (fun x hx=>by simp only [List.mem_cons,List.not_mem_nil,or_false] at hx; omega),((rc2.drewN nq).far (by simp; omega) _).far (by simp; omega) _,((rm2.drewN nq).far (by simp) _).far (by simp) _,
     ((rd2.drewN nq).set_ 0 _).set_ 1 _,by rw [p76]; push_cast; omega,p19,((below_drewN HB2 nq).setCell (by simp; omega) _).setCell (by simp; omega) _,by simp; omega⟩
   case measure=>simp [intOf]; omega
  ·rw [decide_eq_false hj] at hA0
   have hd : decide (tm' < (j : Int)) = false := decide_eq_false hj
   go_quiet (fail)
   go_wp2_with fail
   go_roundw
   case rel =>
    have hne : ∀ x,x ∉ [w6.heap.size + 1,w6.heap.size,w3.heap.size] → x ≠ w6.heap.size + 1 := fun x hx e=>hx (by rw [e]; simp)
    refine ⟨j + 1,N3,q0,q1,by omega,by push_cast; omega,by push_cast; rfl,dv4.toq (by simp) (fun x _ hf=>(Below.heap_setCell _ _ _ x (hne x hf)).trans (Below.heap_setCell _ _ _ x (hne x hf))) (fun x hx=>by simp only [List.mem_cons,List.not_mem_nil,or_false] at hx; omega),((rc2.drewN nq).far (by simp; omega) _).far (by simp; omega) _,((rm2.drewN nq).far (by simp) _).far (by simp) _,
     ((rd2.drewN nq).set_ 0 _).set_ 1 _,by rw [p76]; push_cast; omega,p19,((below_drewN HB2 nq).setCell (by simp; omega) _).setCell (by simp; omega) _,by simp; omega⟩
   case measure=>simp [intOf]; omega
 ·go_wp2_with (first | (refine wpList_load_row rfl 49 _ rfl (w3.heap.size) rfl _ _ _ _ rc2 Tryz.underlying49 rfl (by rw [List.size_toArray,hcc.size]; kernel_rfl) ?_) | (refine wpList_load_row rfl 105 _ rfl (w6.heap.size) rfl _ _ _ _ rm2 Tryz.underlying105 rfl (by kernel_rfl) ?_) | (refine wpList_load_row rfl 77 _ rfl (w6.heap.size + 1) rfl _ _ _ _ rd2 Tryz.underlying77 rfl (by kernel_rfl) ?_))
  with_reducible refine (input_whole dv2.tabs hcc hn' r0 r1).mono ?_
  rintro e w10 ⟨a,b,Fl,cF,rfl,hcF,hnew,hq10,hT10⟩
  obtain ⟨iv,hiv⟩ : ∃ v,Value.agg (inVs (ofL (busIn a b)) ++ [Value.slice (some ⟨Fl.n,0,none⟩) 10 cF]).toArray = v := ⟨_,rfl⟩
  have hq10s := hq10.size
  have tk := tick_any hold_m29v m29v_ok outs_bus.2.2 dom_in.2.2 (by decide) outs_ok.2 dv2 hq10 hBs (fun x hx=>by simp only [List.mem_cons,List.not_mem_nil,or_false] at hx; omega) a b (Fr := some Fl) (fun _ h=>by injection h with h; subst h; exact hnew)
   (fun x hx=>by rcases frM_mem x hx with h | h; exact .inl h; exact .inr ⟨h,Fl,rfl⟩) (fv := Value.slice (some ⟨Fl.n,0,none⟩) 10 cF) (fun _ _ h=>⟨Fl,cF,h,hcF,rfl⟩) (P := fun N'=>truth (ofL N' 112) = false) (fun E h1 h2=>facts_v h1 h2 (by omega))
  rw [hiv] at tk ⊢
  go_wp2_with fail
  with_reducible refine tk.mono ?_
  rintro e w11 ⟨co,N3,q0,q1,rfl,hl11,hone,h8,h9,p112,dv3,sz3,kB,kf,io3⟩
  replace HB2 := (HB2.trans (hq10.mono hBs)).trans ⟨io3.os,io3.tape,io3.output,sz3,fun x hx=>kB x hx⟩
  replace rc2 := (rc2.at_ (hq10.block _ lr)).at_ (kf _ (by simp))
  replace rm2 := (rm2.at_ (hq10.block _ lm)).at_ (kf _ (by simp))
  replace rd2 := (rd2.at_ (hq10.block _ ld)).at_ (kf _ (by simp))
  have H11 := Below.refl w11.heap.size w11
  have s11 := HB2.size
  obtain ⟨w12,eW12,sW12,rz,hb⟩ := box w11 #[.int .i64 0,.bool false,.bool false,.bool false,.bool false,.bool false,.bool false,.slice none 0 0,.bool false,.bool false,.slice none 0 0] 80 (g := w11.heap.size) rfl HB2 (by omega)
  replace H11 : Below w11.heap.size w11 w12 := eW12 ▸ H11.alloc H11.size _
  replace HB2 := hb
  clear hb
  obtain ⟨w13,eW13,sW13,ro,hb⟩ := rowX rz (List.toArray co) (n := w11.heap.size + 1) sW12 HB2 (by omega)
  replace HB2 := hb
  clear hb
  replace H11 : Below w11.heap.size w11 w13 := eW13 ▸ below_row H11 (Nat.le_refl _)
  have hst := run_storeCfg (P := Tryz.prog) rz (by rw [hl11]; kernel_rfl) hone
  rw [eW13] at hst
  replace dv3 : Dv T w.heap.size d N3 [w11.heap.size,w6.heap.size + 1,w6.heap.size,w3.heap.size] w13 := (dv3.new (g := w11.heap.size) (Nat.le_refl _)).toq H11.size (fun x hx _=>H11.block x hx) (fun x hx=>by simp only [List.mem_cons,List.not_mem_nil,or_false] at hx; omega)
  replace rc2 := rc2.at_ (H11.block _ (by omega))
  replace rm2 := rm2.at_ (H11.block _ (by omega))
  replace rd2 := rd2.at_ (H11.block _ (by omega))
  go_wp2_with fail
  with_reducible refine (dv3.faults (by omega) (fun x hx=>by simp only [List.mem_cons,List.not_mem_nil,or_false] at hx; omega)).mono ?_
  rintro e w14 ⟨A,cA,X,cx,Y,ny,cy,rfl,hcA,hAl,hA,dv4,sz4,kB4,kf4,io4⟩
  replace HB2 := HB2.trans ⟨io4.os,io4.tape,io4.output,sz4,fun x hx=>kB4 x hx⟩
  have s14 := HB2.size
  have H14 := Below.refl w14.heap.size w14
  obtain ⟨w15,eW15,sW15,rf,hb⟩ := box w14 #[.slice (some ⟨A,0,none⟩) 11 cA,.slice X 11 cx,.int .i64 (ofL N3 63),.int .i64 (ofL N3 64),.slice Y ny cy] 112 (g := w14.heap.size) rfl HB2 (by omega)
  replace H14 : Below w14.heap.size w14 w15 := eW15 ▸ H14.alloc H14.size _
  replace HB2 := hb
  clear hb
  have hA0 : w15.cell? ⟨A,0,none⟩ = some (.bool false) := by
   rw [← p112]
   exact (World.cell?_of_block (w := w14) (H14.block A hAl)).trans (hA 0 (by decide))
  have f0 := rf.cell 0
  clear hst c72 tk hA p112
  go_wp2_with fail
  go_ret
  first | exact ⟨rfl,HB2⟩ | exact ⟨rfl,below_drewN HB2 _⟩ | exact ⟨rfl,below_drewN HB2 1⟩
end Go.Proofs.YtbegodiligmphaaGreatDoor
