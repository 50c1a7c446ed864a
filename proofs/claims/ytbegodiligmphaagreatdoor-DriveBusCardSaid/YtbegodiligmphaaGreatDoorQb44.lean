/- Part of the proof of BusProof. The walk of the statement DriveBus, whole. -/
import Derived.Test.YtbegodiligmphaaGreatDoorQb06
import Derived.Test.YtbegodiligmphaaGreatDoorQb43
namespace Go.Proofs.YtbegodiligmphaaGreatDoor
open Go Go.RowKit Sy
theorem wf_u8 {a : Int} (h : (Lit.int .u8 a).wf = true) : 0 ≤ a ∧ a ≤ 255 := by
 simp only [Lit.wf,Bool.and_eq_true,decide_eq_true_eq] at h
 have e1 : IntKind.u8.min = 0 := by decide
 have e2 : IntKind.u8.max = 255 := by decide
 omega
theorem wf_u16 {a : Int} (h : (Lit.int .u16 a).wf = true) : 0 ≤ a ∧ a ≤ 65535 := by
 simp only [Lit.wf,Bool.and_eq_true,decide_eq_true_eq] at h
 have e1 : IntKind.u16.min = 0 := by decide
 have e2 : IntKind.u16.max = 65535 := by decide
 omega
theorem driveBus_walk {T : Nat → TypeId} (k dd tm n la : Int) (hk : (Lit.int .u8 k).wf = true) (hdd : (Lit.int .u8 dd).wf = true) (htm : (Lit.int .u8 tm).wf = true) (hn : (Lit.int .u8 n).wf = true) (hla : (Lit.int .u16 la).wf = true) (cut : Bool) (m : Int) (hm : (Lit.int .u8 m).wf = true) (w : World) (hT : Tabs T w) :
  Calls Tryz.prog 8 #[.agg #[.int .u8 k,.int .u8 dd,.int .u8 tm,.int .u8 n,.int .u16 la],.bool cut,.int .u8 m] w fun e w'=>e = .returned (.bool true) ∧ Below w.heap.size w w' := by
 cases cut with
 | false=>exact driveBus_none k dd tm n la (wf_u8 hk) (wf_u8 hdd) (wf_u8 htm) (wf_u8 hn) (wf_u16 hla) m (wf_u8 hm) w hT
 | true=>exact driveBus_cut k dd tm n la (wf_u8 hk) (wf_u8 hdd) (wf_u8 htm) (wf_u8 hn) (wf_u16 hla) m (wf_u8 hm) w hT
end Go.Proofs.YtbegodiligmphaaGreatDoor
