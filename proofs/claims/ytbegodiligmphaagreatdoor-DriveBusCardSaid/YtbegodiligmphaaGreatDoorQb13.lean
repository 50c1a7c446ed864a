/- Part of the proof of BusProof. MADE BY PROGRAM (gen_stt.py): the parameter store's methods by cases: the tables behind them, the ways. -/
import Derived.Test.YtbegodiligmphaaGreatDoorQb10
import Derived.Test.YtbegodiligmphaaGreatDoorQb12
namespace Go.Proofs.YtbegodiligmphaaGreatDoor.Sy
open Go
def m288 : MLit :=
 {args := [.a (.one (.sla 3 0 64)),.a (.one (.fn 289 .junk))],
  mem := [⟨3,[],[uE 0,uE 1,uE 2,uE 3,uE 4,uE 5,uE 6,uE 7,uE 8,uE 9,uE 10,uE 11,uE 12,uE 13,uE 14,uE 15,uE 16,uE 17,uE 18,uE 19,uE 20,uE 21,uE 22,uE 23,uE 24,uE 25,uE 26,uE 27,uE 28,uE 29,uE 30,uE 31,uE 32,uE 33,uE 34,uE 35,uE 36,uE 37,uE 38,uE 39,uE 40,uE 41,uE 42,uE 43,uE 44,uE 45,uE 46,uE 47,uE 48,uE 49,uE 50,uE 51,uE 52,uE 53,uE 54,uE 55,uE 56,uE 57,uE 58,uE 59,uE 60,uE 61,uE 62,uE 63],none⟩] ++ tabs3,
  nt := 4,k := 64,
  dom := [],
  out := .a (.one (bE 1655)),
  nw := [],
  dif := [],
  gone := [],nt' := 4,
  ivs := [(1655,0,1)],gl := [0,1,2],fx := [],mg := [],mo := [],es := [] }
def m192 : MLit :=
 {args := [.a (.one (iE 0)),.a (.one (.sla 3 0 4))],
  mem := [⟨3,[],[iE 1,iE 2,iE 3,iE 4],none⟩] ++ tabs3,
  nt := 4,k := 5,
  dom := [(0,mI,mA),(1,0,1048576),(2,0,1048576),(3,0,1048576),(4,0,1048576)],
  out := .tup [.one (.mix (.e 16) (.slu 6 0 1 1) (.nilS)),.one (.mix (.e 16) (.nilI) (.ifc 116 (iC 3)))],
  nw := [⟨6,[(.e 16,true)],[.slc 4 0 64 64],none⟩,⟨4,[(.e 16,true)],([.int .u8 (.c (0)),.int .u8 (.c (4)),uE 19,uE 21,uE 23,uE 25,uE 27,uE 29,uE 32,uE 34,uE 36,uE 38,uE 40,uE 42,uE 44,uE 46,uE 49,uE 51,uE 53,uE 55,uE 57,uE 59,uE 61,uE 63,uE 66,uE 68,uE 70,uE 72,uE 74,uE 76,uE 78,uE 80,uE 83,uE 85,uE 87,uE 89,uE 91,uE 93,uE 95,uE 97] ++ sq14 ++ sq14 ++ [.int .u8 (.c (0)),.int .u8 (.c (0)),uE 350,uE 352]),none⟩],
  dif := [],
  gone := [],nt' := 7,
  ivs := [(16,0,1),(19,0,255),(21,0,255),(23,0,255),(25,0,255),(27,0,255),(29,0,255),(32,0,0),(34,0,0),(36,0,0),(38,0,0),(40,0,0),(42,0,16),(44,0,255),(46,0,255),(49,0,0),(51,0,0),(53,0,0),(55,0,0),(57,0,0),(59,0,16),(61,0,255),(63,0,255),(66,0,0),(68,0,0),(70,0,0),(72,0,0),(74,0,0),(76,0,16),(78,0,255),(80,0,255),(83,0,0),(85,0,0),(87,0,0),(89,0,0),(91,0,0),(93,0,16),(95,0,255),(97,0,255),(350,0,1),(352,0,255)],gl := [0,1,2],fx := [],mg := [],mo := [],es := [16] }
def m215s0 : MLit :=
 {args := [.a (.one (.ptr 19 0))],
  mem := [⟨19,[],(sq39 ++ [iC (-1)] ++ sq46),none⟩,
   ⟨18,[],([.opq 1000005,.opq 1000006,.opq 1000007,.opq 1000008] ++ sq16),none⟩,
   ⟨15,[],[iE 1],some 4⟩] ++ tabs3,
  nt := 20,k := 2,
  dom := [(0,0,1)],
  out := .tup [],
  nw := [],
  dif := [(19,[(12,iE 1666),(13,iE 1667),(15,bE 1668)])],
  gone := [],nt' := 36,
  ivs := [(1666,0,1),(1667,0,7),(1668,0,1)],gl := [0,1,2],fx := [],mg := [],mo := [] }
def m215s1 : MLit :=
 {args := [.a (.one (.ptr 19 0))],
  mem := [⟨19,[],(sq39 ++ [iC 0] ++ sq46),none⟩,
   ⟨18,[],([.opq 1000005,.opq 1000006,.opq 1000007,.opq 1000008] ++ sq16),none⟩,
   ⟨15,[],[iE 1],some 4⟩] ++ tabs3,
  nt := 20,k := 2,
  dom := [(0,0,1)],
  out := .tup [],
  nw := [],
  dif := [(19,[(12,iE 1551),(13,iE 1552),(15,bE 1553)])],
  gone := [],nt' := 35,
  ivs := [(1551,0,1),(1552,0,7),(1553,0,1)],gl := [0,1,2],fx := [],mg := [],mo := [] }
def m215s2 : MLit :=
 {args := [.a (.one (.ptr 19 0))],
  mem := [⟨19,[],(sq39 ++ [iC 1] ++ sq46),none⟩,
   ⟨18,[],([.opq 1000005,.opq 1000006,.opq 1000007,.opq 1000008] ++ sq16),none⟩,
   ⟨15,[],[iE 1],some 4⟩] ++ tabs3,
  nt := 20,k := 2,
  dom := [(0,0,1)],
  out := .tup [],
  nw := [],
  dif := [(19,[(12,iE 1436),(13,iE 1437),(15,bE 1438)])],
  gone := [],nt' := 34,
  ivs := [(1436,0,1),(1437,0,7),(1438,0,1)],gl := [0,1,2],fx := [],mg := [],mo := [] }
def m215s3 : MLit :=
 {args := [.a (.one (.ptr 19 0))],
  mem := [⟨19,[],(sq39 ++ [iC 2] ++ sq46),none⟩,
   ⟨18,[],([.opq 1000005,.opq 1000006,.opq 1000007,.opq 1000008] ++ sq16),none⟩,
   ⟨15,[],[iE 1],some 4⟩] ++ tabs3,
  nt := 20,k := 2,
  dom := [(0,0,1)],
  out := .tup [],
  nw := [],
  dif := [(19,[(12,iE 1321),(13,iE 1322),(15,bE 1323)])],
  gone := [],nt' := 33,
  ivs := [(1321,0,1),(1322,0,7),(1323,0,1)],gl := [0,1,2],fx := [],mg := [],mo := [] }
def m215s4 : MLit :=
 {args := [.a (.one (.ptr 19 0))],
  mem := [⟨19,[],(sq39 ++ [iC 3] ++ sq46),none⟩,
   ⟨18,[],([.opq 1000005,.opq 1000006,.opq 1000007,.opq 1000008] ++ sq16),none⟩,
   ⟨15,[],[iE 1],some 4⟩] ++ tabs3,
  nt := 20,k := 2,
  dom := [(0,0,1)],
  out := .tup [],
  nw := [],
  dif := [(19,[(12,iE 1206),(13,iE 1207),(15,bE 1208)])],
  gone := [],nt' := 32,
  ivs := [(1206,0,1),(1207,0,7),(1208,0,1)],gl := [0,1,2],fx := [],mg := [],mo := [] }
def m215s5 : MLit :=
 {args := [.a (.one (.ptr 19 0))],
  mem := [⟨19,[],(sq39 ++ [iC 4] ++ sq46),none⟩,
   ⟨18,[],([.opq 1000005,.opq 1000006,.opq 1000007,.opq 1000008] ++ sq16),none⟩,
   ⟨15,[],[iE 1],some 4⟩] ++ tabs3,
  nt := 20,k := 2,
  dom := [(0,0,1)],
  out := .tup [],
  nw := [],
  dif := [(19,[(12,iE 1091),(13,iE 1092),(15,bE 1093)])],
  gone := [],nt' := 31,
  ivs := [(1091,0,1),(1092,0,7),(1093,0,1)],gl := [0,1,2],fx := [],mg := [],mo := [] }
def m215s6 : MLit :=
 {args := [.a (.one (.ptr 19 0))],
  mem := [⟨19,[],(sq39 ++ [iC 5] ++ sq46),none⟩,
   ⟨18,[],([.opq 1000005,.opq 1000006,.opq 1000007,.opq 1000008] ++ sq16),none⟩,
   ⟨15,[],[iE 1],some 4⟩] ++ tabs3,
  nt := 20,k := 2,
  dom := [(0,0,1)],
  out := .tup [],
  nw := [],
  dif := [(19,[(12,iE 976),(13,iE 977),(15,bE 978)])],
  gone := [],nt' := 30,
  ivs := [(976,0,1),(977,0,7),(978,0,1)],gl := [0,1,2],fx := [],mg := [],mo := [] }
def m215s7 : MLit :=
 {args := [.a (.one (.ptr 19 0))],
  mem := [⟨19,[],(sq39 ++ [iC 6] ++ sq46),none⟩,
   ⟨18,[],([.opq 1000005,.opq 1000006,.opq 1000007,.opq 1000008] ++ sq16),none⟩,
   ⟨15,[],[iE 1],some 4⟩] ++ tabs3,
  nt := 20,k := 2,
  dom := [(0,0,1)],
  out := .tup [],
  nw := [],
  dif := [(19,[(12,iE 860),(13,iE 861),(15,bE 862)])],
  gone := [],nt' := 29,
  ivs := [(860,0,1),(861,0,7),(862,0,1)],gl := [0,1,2],fx := [],mg := [],mo := [] }
def m215s8 : MLit :=
 {args := [.a (.one (.ptr 19 0))],
  mem := [⟨19,[],(sq39 ++ [iC 7] ++ sq46),none⟩,
   ⟨18,[],([.opq 1000005,.opq 1000006,.opq 1000007,.opq 1000008] ++ sq16),none⟩,
   ⟨15,[],[iE 1],some 4⟩] ++ tabs3,
  nt := 20,k := 2,
  dom := [(0,0,1)],
  out := .tup [],
  nw := [],
  dif := [(19,[(12,iE 3),(13,iC 0),(15,bE 756)])],
  gone := [],nt' := 28,
  ivs := [(3,0,1),(756,0,1)],gl := [0,1,2],fx := [],mg := [],mo := [] }
def m151b0 : MLit :=
 {args := [.a (.one (.ptr 19 0)),.a (.one (iC 0)),.a (.one (iE 0))],
  mem := [⟨19,[],(sq30 ++ [.opq 1000007,.opq 1000008,.opq 1000009,.opq 1000010,.opq 1000011,.opq 1000012,.opq 1000013]),none⟩,
   ⟨18,[],sq18,none⟩,
   ⟨16,[],[iE 1,.opq 1000014,.opq 1000015,.opq 1000016],none⟩] ++ tabs3,
  nt := 20,k := 2,
  dom := [(0,mI,mA),(1,0,4096)],
  out := .a (.one (.mix (.e 8) (.nilI) (.ifc 116 (iC 3)))),
  nw := [],
  dif := [(16,[(0,iE 10)])],
  gone := [],nt' := 20,
  ivs := [(8,0,1)],gl := [0,1,2],fx := [],mg := [],mo := [],es := [],ivx := [(10,0,4096)] }
def m151b1 : MLit :=
 {args := [.a (.one (.ptr 19 0)),.a (.one (iC 1)),.a (.one (iE 0))],
  mem := [⟨19,[],(sq30 ++ [.opq 1000007,.opq 1000008,.opq 1000009,.opq 1000010,.opq 1000011,.opq 1000012,.opq 1000013]),none⟩,
   ⟨18,[],sq18,none⟩,
   ⟨16,[],[.opq 1000014,iE 1,.opq 1000015,.opq 1000016],none⟩] ++ tabs3,
  nt := 20,k := 2,
  dom := [(0,mI,mA),(1,0,1048576)],
  out := .a (.one (.mix (.e 8) (.nilI) (.ifc 116 (iC 3)))),
  nw := [],
  dif := [(16,[(1,iE 10)])],
  gone := [],nt' := 20,
  ivs := [(8,0,1)],gl := [0,1,2],fx := [],mg := [],mo := [],es := [],ivx := [(10,0,1048576)] }
def m151b2 : MLit :=
 {args := [.a (.one (.ptr 19 0)),.a (.one (iC 2)),.a (.one (iE 0))],
  mem := [⟨19,[],(sq30 ++ [.opq 1000007,.opq 1000008,.opq 1000009,.opq 1000010,.opq 1000011,.opq 1000012,.opq 1000013]),none⟩,
   ⟨18,[],sq18,none⟩,
   ⟨16,[],[.opq 1000014,.opq 1000015,iE 1,.opq 1000016],none⟩] ++ tabs3,
  nt := 20,k := 2,
  dom := [(0,mI,mA),(1,0,1048576)],
  out := .a (.one (.mix (.e 8) (.nilI) (.ifc 116 (iC 3)))),
  nw := [],
  dif := [(16,[(2,iE 10)])],
  gone := [],nt' := 20,
  ivs := [(8,0,1)],gl := [0,1,2],fx := [],mg := [],mo := [],es := [],ivx := [(10,0,1048576)] }
def m151b3 : MLit :=
 {args := [.a (.one (.ptr 19 0)),.a (.one (iC 3)),.a (.one (iE 0))],
  mem := [⟨19,[],(sq30 ++ [.opq 1000007,.opq 1000008,.opq 1000009,.opq 1000010,.opq 1000011,.opq 1000012,.opq 1000013]),none⟩,
   ⟨18,[],sq18,none⟩,
   ⟨16,[],[.opq 1000014,.opq 1000015,.opq 1000016,iE 1],none⟩] ++ tabs3,
  nt := 20,k := 2,
  dom := [(0,mI,mA),(1,0,6000)],
  out := .a (.one (.mix (.e 8) (.nilI) (.ifc 116 (iC 3)))),
  nw := [],
  dif := [(16,[(3,iE 10)])],
  gone := [],nt' := 20,
  ivs := [(8,0,1)],gl := [0,1,2],fx := [],mg := [],mo := [],es := [],ivx := [(10,0,6000)] }
def m151i0 : MLit :=
 {args := [.a (.one (.ptr 19 0)),.a (.one (iC 0)),.a (.one (iE 0))],
  mem := [⟨19,[],(sq30 ++ [.junk,.junk,.junk,.junk,.junk,.junk,.opq 1000007]),none⟩,
   ⟨18,[],sq18,none⟩,
   ⟨16,[],[iE 1,.opq 1000008,.opq 1000009,.opq 1000010],none⟩] ++ tabs3,
  nt := 20,k := 2,
  dom := [(0,mI,mA),(1,0,4096)],
  out := .a (.one (.mix (.e 8) (.nilI) (.ifc 116 (iC 3)))),
  nw := [],
  dif := [(16,[(0,iE 10)])],
  gone := [],nt' := 20,
  ivs := [(8,0,1)],gl := [0,1,2],fx := [],mg := [],mo := [],es := [],ivx := [(10,0,4096)] }
def m151i1 : MLit :=
 {args := [.a (.one (.ptr 19 0)),.a (.one (iC 1)),.a (.one (iE 0))],
  mem := [⟨19,[],(sq30 ++ [.junk,.junk,.junk,.junk,.junk,.junk,.opq 1000007]),none⟩,
   ⟨18,[],sq18,none⟩,
   ⟨16,[],[.opq 1000008,iE 1,.opq 1000009,.opq 1000010],none⟩] ++ tabs3,
  nt := 20,k := 2,
  dom := [(0,mI,mA),(1,0,1048576)],
  out := .a (.one (.mix (.e 8) (.nilI) (.ifc 116 (iC 3)))),
  nw := [],
  dif := [(16,[(1,iE 10)])],
  gone := [],nt' := 20,
  ivs := [(8,0,1)],gl := [0,1,2],fx := [],mg := [],mo := [],es := [],ivx := [(10,0,1048576)] }
def m151i2 : MLit :=
 {args := [.a (.one (.ptr 19 0)),.a (.one (iC 2)),.a (.one (iE 0))],
  mem := [⟨19,[],(sq30 ++ [.junk,.junk,.junk,.junk,.junk,.junk,.opq 1000007]),none⟩,
   ⟨18,[],sq18,none⟩,
   ⟨16,[],[.opq 1000008,.opq 1000009,iE 1,.opq 1000010],none⟩] ++ tabs3,
  nt := 20,k := 2,
  dom := [(0,mI,mA),(1,0,1048576)],
  out := .a (.one (.mix (.e 8) (.nilI) (.ifc 116 (iC 3)))),
  nw := [],
  dif := [(16,[(2,iE 10)])],
  gone := [],nt' := 20,
  ivs := [(8,0,1)],gl := [0,1,2],fx := [],mg := [],mo := [],es := [],ivx := [(10,0,1048576)] }
def m151i3 : MLit :=
 {args := [.a (.one (.ptr 19 0)),.a (.one (iC 3)),.a (.one (iE 0))],
  mem := [⟨19,[],(sq30 ++ [.junk,.junk,.junk,.junk,.junk,.junk,.opq 1000007]),none⟩,
   ⟨18,[],sq18,none⟩,
   ⟨16,[],[.opq 1000008,.opq 1000009,.opq 1000010,iE 1],none⟩] ++ tabs3,
  nt := 20,k := 2,
  dom := [(0,mI,mA),(1,0,6000)],
  out := .a (.one (.mix (.e 8) (.nilI) (.ifc 116 (iC 3)))),
  nw := [],
  dif := [(16,[(3,iE 10)])],
  gone := [],nt' := 20,
  ivs := [(8,0,1)],gl := [0,1,2],fx := [],mg := [],mo := [],es := [],ivx := [(10,0,6000)] }
def m151z : MLit :=
 {args := [.a (.one (.ptr 19 0)),.a (.one (iE 0)),.a (.one (iE 1))],
  mem := [⟨19,[],[.opq 1000000,.opq 1000001,.opq 1000002,.opq 1000003,.opq 1000004,.opq 1000005,.opq 1000006,.opq 1000007,.opq 1000008,.bool (.c 1),.junk,.junk,.junk,.junk,.junk,.junk,.junk],none⟩] ++ tabs3,
  nt := 20,k := 2,
  dom := [(0,mI,mA),(1,mI,mA)],
  out := .a (.one (.ifc 116 (iC 20))),
  nw := [],
  dif := [],
  gone := [],nt' := 20,
  ivs := [],gl := [0,1,2],fx := [],mg := [],mo := [],es := [] }
noncomputable def sf0 : List (FuncId × Ctr) := (184,downFl.ctr) :: tb60
noncomputable def sf1 : List (FuncId × Ctr) := (188,pagesFl.ctr) :: sf0
noncomputable def sf2 : List (FuncId × Ctr) := (186,blocksFl.ctr) :: sf1
noncomputable def sf3 : List (FuncId × Ctr) := (189,readFl.ctr) :: sf2
noncomputable def sf4 : List (FuncId × Ctr) := (171,programFl.ctr) :: sf3
noncomputable def sf5 : List (FuncId × Ctr) := (170,eraseFl.ctr) :: sf4
noncomputable def st1 : List (FuncId × Ctr) := (288,(m288.ms (mkCx sf5) 20 400 288).ctr) :: sf5
noncomputable def st2 : List (FuncId × Ctr) := (192,(m192.ms (mkCx st1) 20 400 192).ctr) :: st1
noncomputable def st3 : List (FuncId × Ctr) := (151,((m151b3.ms (mkCx st2) 20 400 151).ctr).or (((m151b2.ms (mkCx st2) 20 400 151).ctr).or (((m151b1.ms (mkCx st2) 20 400 151).ctr).or (((m151b0.ms (mkCx st2) 20 400 151).ctr).or (((m151i3.ms (mkCx st2) 20 400 151).ctr).or (((m151i2.ms (mkCx st2) 20 400 151).ctr).or (((m151i1.ms (mkCx st2) 20 400 151).ctr).or (((m151i0.ms (mkCx st2) 20 400 151).ctr).or ((m151z.ms (mkCx st2) 20 400 151).ctr))))))))) :: st2
noncomputable def st4 : List (FuncId × Ctr) := (215,((m215s8.ms (mkCx st3) 20 400 215).ctr).or (((m215s7.ms (mkCx st3) 20 400 215).ctr).or (((m215s6.ms (mkCx st3) 20 400 215).ctr).or (((m215s5.ms (mkCx st3) 20 400 215).ctr).or (((m215s4.ms (mkCx st3) 20 400 215).ctr).or (((m215s3.ms (mkCx st3) 20 400 215).ctr).or (((m215s2.ms (mkCx st3) 20 400 215).ctr).or (((m215s1.ms (mkCx st3) 20 400 215).ctr).or ((m215s0.ms (mkCx st3) 20 400 215).ctr))))))))) :: st3
def setD : List (Nat × Int × Int) := [(0,0,3),(1,mI,mA)]
def jk : SV := .a (.one .junk)
def jk2 : SV := .tup [.one .junk,.one .junk]
def brk : SV := .a (.one (bE 2))
def setW' (c : Nat) : List Wy := (List.range 4).map fun (i : Nat)=>⟨base c [.c (i : Nat),.e ((sh c).k + 1)] 2 [((sh c).k,(i : Nat),(i : Nat)),((sh c).k + 1,mI,mA)] [] [],[.c (i : Nat),.e ((sh c).k + 1)],c,[],0⟩
def brokenW' (c : Nat) : List Wy := [⟨base c [] 0 [] [] [],[],c,[],if c < 3 then 0 else 1⟩]
def stepW' (c : Nat) : List Wy := if c = 1 then [⟨base c [] 0 [] [(.e 223,true)] [],[],0,[],0⟩,⟨base c [] 0 [] [(.e 223,false)] [],[],3,[],0⟩] else only c (if c = 2 then 1 else c)
def begB (s : Nat) : Nat := if s < 8 then 203 else 202
def begE (s : Nat) : Nat := if s < 8 then 173 else 172
def begW (c s : Nat) : List Wy := [⟨base c [] 0 [] [(.e (begB s),true),(.e (begE s),false)] [(10,(s : Int) - 1)],[],1,[(10,(s : Int) - 1)],0⟩,⟨base c [] 0 [] [(.e (begB s),true),(.e (begE s),true)] [(10,(s : Int) - 1)],[],2,[(10,(s : Int) - 1)],0⟩,⟨base c [] 0 [] [(.e (begB s),false)] [(10,(s : Int) - 1)],[],0,[(10,(s : Int) - 1)],0⟩]
def beginW' (c : Nat) : List Wy := if c = 0 then (List.range 9).flatMap (begW c) else only c c
def savedB (c : Nat) : MLit := base c [] 0 [] [] []
def setW (c : Nat) : List Wy := setW' (min c 3)
def brokenW (c : Nat) : List Wy := brokenW' (min c 3)
def stepW (c : Nat) : List Wy := stepW' (min c 3)
def beginW (c : Nat) : List Wy := beginW' (min c 3)
theorem m288_check : m288.check (mkCx sf5) 20 400 288 = true := by decide +kernel
theorem m192_check : m192.check (mkCx st1) 20 400 192 = true := by decide +kernel
theorem m151z_check : m151z.check (mkCx st2) 20 400 151 = true := by decide +kernel
theorem m151i0_check : m151i0.check (mkCx st2) 20 400 151 = true := by decide +kernel
theorem m151i1_check : m151i1.check (mkCx st2) 20 400 151 = true := by decide +kernel
theorem m151i2_check : m151i2.check (mkCx st2) 20 400 151 = true := by decide +kernel
theorem m151i3_check : m151i3.check (mkCx st2) 20 400 151 = true := by decide +kernel
theorem m151b0_check : m151b0.check (mkCx st2) 20 400 151 = true := by decide +kernel
theorem m151b1_check : m151b1.check (mkCx st2) 20 400 151 = true := by decide +kernel
theorem m151b2_check : m151b2.check (mkCx st2) 20 400 151 = true := by decide +kernel
theorem m151b3_check : m151b3.check (mkCx st2) 20 400 151 = true := by decide +kernel
theorem m215s0_check : m215s0.check (mkCx st3) 20 400 215 = true := by decide +kernel
theorem m215s1_check : m215s1.check (mkCx st3) 20 400 215 = true := by decide +kernel
theorem m215s2_check : m215s2.check (mkCx st3) 20 400 215 = true := by decide +kernel
theorem m215s3_check : m215s3.check (mkCx st3) 20 400 215 = true := by decide +kernel
theorem m215s4_check : m215s4.check (mkCx st3) 20 400 215 = true := by decide +kernel
theorem m215s5_check : m215s5.check (mkCx st3) 20 400 215 = true := by decide +kernel
theorem m215s6_check : m215s6.check (mkCx st3) 20 400 215 = true := by decide +kernel
theorem m215s7_check : m215s7.check (mkCx st3) 20 400 215 = true := by decide +kernel
theorem m215s8_check : m215s8.check (mkCx st3) 20 400 215 = true := by decide +kernel
section
variable {O : Objs} (hO : ∀ vs L w,O.rel 4 vs L w ↔ FlRel vs L w)
include hO
omit hO in
theorem tb60_ok2 : ∀ I X E f c,tblCtr tb60 f = some c → CtrOk (mkCx tb60) O I X E f c := fun I X E f c hc=>tb60_ok O I X E f c hc
theorem sf0_ok : ∀ I X E f c,tblCtr sf0 f = some c → CtrOk (mkCx sf0) O I X E f c := tbl_cons tb60_ok2 (downFl_ok (C := mkCx tb60) rfl (mkCx_gl tb60) hO)
theorem sf1_ok : ∀ I X E f c,tblCtr sf1 f = some c → CtrOk (mkCx sf1) O I X E f c := tbl_cons (sf0_ok hO) (pagesFl_ok (C := mkCx sf0) rfl (mkCx_gl sf0) hO)
theorem sf2_ok : ∀ I X E f c,tblCtr sf2 f = some c → CtrOk (mkCx sf2) O I X E f c := tbl_cons (sf1_ok hO) (blocksFl_ok (C := mkCx sf1) rfl (mkCx_gl sf1) hO)
theorem sf3_ok : ∀ I X E f c,tblCtr sf3 f = some c → CtrOk (mkCx sf3) O I X E f c := tbl_cons (sf2_ok hO) (readFl_ok (C := mkCx sf2) rfl (mkCx_gl sf2) hO)
theorem sf4_ok : ∀ I X E f c,tblCtr sf4 f = some c → CtrOk (mkCx sf4) O I X E f c := tbl_cons (sf3_ok hO) (programFl_ok (C := mkCx sf3) rfl (mkCx_gl sf3) hO)
theorem sf5_ok : ∀ I X E f c,tblCtr sf5 f = some c → CtrOk (mkCx sf5) O I X E f c := tbl_cons (sf4_ok hO) (eraseFl_ok (C := mkCx sf4) rfl (mkCx_gl sf4) hO)
theorem st1_ok : ∀ I X E f c,tblCtr st1 f = some c → CtrOk (mkCx st1) O I X E f c := tbl_cons (sf5_ok hO) (fun I X E=>MLit.ok (C := mkCx sf5) cx_mix cx_name (sf5_ok hO) (fun gl id h=>(by show id ∈ [0,1,2]; exact mkCx_gl sf5 gl id h)) m288_check rfl I X E)
theorem st2_ok : ∀ I X E f c,tblCtr st2 f = some c → CtrOk (mkCx st2) O I X E f c := tbl_cons (st1_ok hO) (fun I X E=>MLit.ok (C := mkCx st1) cx_mix cx_name (st1_ok hO) (fun gl id h=>(by show id ∈ [0,1,2]; exact mkCx_gl st1 gl id h)) m192_check rfl I X E)
theorem st3_ok : ∀ I X E f c,tblCtr st3 f = some c → CtrOk (mkCx st3) O I X E f c := tbl_cons (st2_ok hO) (fun I X E=>(MLit.ok (C := mkCx st2) cx_mix cx_name (st2_ok hO) (fun gl id h=>(by show id ∈ [0,1,2]; exact mkCx_gl st2 gl id h)) m151b3_check rfl I X E).or ((MLit.ok (C := mkCx st2) cx_mix cx_name (st2_ok hO) (fun gl id h=>(by show id ∈ [0,1,2]; exact mkCx_gl st2 gl id h)) m151b2_check rfl I X E).or ((MLit.ok (C := mkCx st2) cx_mix cx_name (st2_ok hO) (fun gl id h=>(by show id ∈ [0,1,2]; exact mkCx_gl st2 gl id h)) m151b1_check rfl I X E).or ((MLit.ok (C := mkCx st2) cx_mix cx_name (st2_ok hO) (fun gl id h=>(by show id ∈ [0,1,2]; exact mkCx_gl st2 gl id h)) m151b0_check rfl I X E).or ((MLit.ok (C := mkCx st2) cx_mix cx_name (st2_ok hO) (fun gl id h=>(by show id ∈ [0,1,2]; exact mkCx_gl st2 gl id h)) m151i3_check rfl I X E).or ((MLit.ok (C := mkCx st2) cx_mix cx_name (st2_ok hO) (fun gl id h=>(by show id ∈ [0,1,2]; exact mkCx_gl st2 gl id h)) m151i2_check rfl I X E).or ((MLit.ok (C := mkCx st2) cx_mix cx_name (st2_ok hO) (fun gl id h=>(by show id ∈ [0,1,2]; exact mkCx_gl st2 gl id h)) m151i1_check rfl I X E).or ((MLit.ok (C := mkCx st2) cx_mix cx_name (st2_ok hO) (fun gl id h=>(by show id ∈ [0,1,2]; exact mkCx_gl st2 gl id h)) m151i0_check rfl I X E).or (MLit.ok (C := mkCx st2) cx_mix cx_name (st2_ok hO) (fun gl id h=>(by show id ∈ [0,1,2]; exact mkCx_gl st2 gl id h)) m151z_check rfl I X E)))))))))
theorem st4_ok : ∀ I X E f c,tblCtr st4 f = some c → CtrOk (mkCx st4) O I X E f c := tbl_cons (st3_ok hO) (fun I X E=>(MLit.ok (C := mkCx st3) cx_mix cx_name (st3_ok hO) (fun gl id h=>(by show id ∈ [0,1,2]; exact mkCx_gl st3 gl id h)) m215s8_check rfl I X E).or ((MLit.ok (C := mkCx st3) cx_mix cx_name (st3_ok hO) (fun gl id h=>(by show id ∈ [0,1,2]; exact mkCx_gl st3 gl id h)) m215s7_check rfl I X E).or ((MLit.ok (C := mkCx st3) cx_mix cx_name (st3_ok hO) (fun gl id h=>(by show id ∈ [0,1,2]; exact mkCx_gl st3 gl id h)) m215s6_check rfl I X E).or ((MLit.ok (C := mkCx st3) cx_mix cx_name (st3_ok hO) (fun gl id h=>(by show id ∈ [0,1,2]; exact mkCx_gl st3 gl id h)) m215s5_check rfl I X E).or ((MLit.ok (C := mkCx st3) cx_mix cx_name (st3_ok hO) (fun gl id h=>(by show id ∈ [0,1,2]; exact mkCx_gl st3 gl id h)) m215s4_check rfl I X E).or ((MLit.ok (C := mkCx st3) cx_mix cx_name (st3_ok hO) (fun gl id h=>(by show id ∈ [0,1,2]; exact mkCx_gl st3 gl id h)) m215s3_check rfl I X E).or ((MLit.ok (C := mkCx st3) cx_mix cx_name (st3_ok hO) (fun gl id h=>(by show id ∈ [0,1,2]; exact mkCx_gl st3 gl id h)) m215s2_check rfl I X E).or ((MLit.ok (C := mkCx st3) cx_mix cx_name (st3_ok hO) (fun gl id h=>(by show id ∈ [0,1,2]; exact mkCx_gl st3 gl id h)) m215s1_check rfl I X E).or (MLit.ok (C := mkCx st3) cx_mix cx_name (st3_ok hO) (fun gl id h=>(by show id ∈ [0,1,2]; exact mkCx_gl st3 gl id h)) m215s0_check rfl I X E)))))))))
end
end Go.Proofs.YtbegodiligmphaaGreatDoor.Sy
