/- Common words of the walks: the value of an error, of an edge. -/
import Derived.Test.YtgnojdiecgfeaaaRows
import Derived.Test.YtgnojdiecgfeaaaWords
import Derived.Test.YtgnojdiecgfeaaaPlain
namespace Go.Proofs.Ytgnojdiecgfeaaa
open Go.RowKit

/-- An error's value: nil for 0. -/
def errV (n : Int) : Value := if n = 0 then .nilIface else .iface 95 (.int .i64 n)
theorem errV_zero : errV 0 = .nilIface := rfl
theorem errV_ne {n : Int} (h : n ≠ 0) : errV n = .iface 95 (.int .i64 n) := if_neg h
def Ed.row (e : Ed) : List Value := [.int .i64 e.t, .int .i64 e.s, .bool e.o]
/-- The value of gate signals. -/
def gv (per : Int) (b0 b1 b2 b3 b4 b5 : Bool) (A : Option Addr) (n c : Nat) : Value :=
  .agg #[.int .i64 per, .bool b0, .bool b1, .bool b2, .bool b3, .bool b4, .bool b5, .slice A n c]


end Go.Proofs.Ytgnojdiecgfeaaa
