/- Common words of the walks over machines: the value of an error, slices of numbers, curves. -/
import Derived.Test.YtmmplfokidnpnaaRows
import Derived.Test.YtmmplfokidnpnaaWords
import Derived.Test.YtmmplfokidnpnaaMPlain
import Derived.WalkMore
namespace Go.Proofs.Ytmmplfokidnpnaa
open Go.RowKit

theorem hide {p : Prop} (h : p) : Hid p := h
theorem unhide {p : Prop} (h : Hid p) : p := h
/-- An error's value: nil for 0. -/
def errV (n : Int) : Value := if n = 0 then .nilIface else .iface 79 (.int .i64 n)
theorem errV_zero : errV 0 = .nilIface := rfl
theorem errV_ne {n : Int} (h : n ≠ 0) : errV n = .iface 79 (.int .i64 n) := if_neg h
def rows (X : List Int) : List (List Value) := X.map fun x => [Value.int .i64 x]
theorem g_of {X : List Int} {k : Nat} (h : k < X.length) : X[k]? = some (g X k) := by
  unfold g
  rw [List.getD_eq_getElem?_getD, List.getElem?_eq_getElem h]
  rfl
theorem Sl.at1 {w : World} {B : Nat} {A : Option Addr} {X : List Int} {k : Nat} (h : Sl w B 1 A (rows X)) (hk : k < X.length) : ∃ ad p, A = some ad ∧ ad.add k = p ∧ p.block < B ∧ w.cell? p = some (.int .i64 (g X k)) := by
  obtain ⟨ad, rfl, hb, hc⟩ := h.cell0 (k := k) (r := [.int .i64 (g X k)]) (u := .int .i64 (g X k)) (by unfold rows; rw [List.getElem?_map, g_of hk]; rfl) rfl
  rw [Nat.mul_one] at hc
  exact ⟨ad, _, rfl, rfl, by rw [block_of_add]; exact hb, hc⟩
/-- A number of a slice of which the pointer is known. -/
theorem Sl.at1' {w : World} {B : Nat} {ad : Addr} {X : List Int} {k : Nat} (h : Sl w B 1 (some ad) (rows X)) (hk : k < X.length) : ∃ p, ad.add k = p ∧ p.block < B ∧ w.cell? p = some (.int .i64 (g X k)) := by
  obtain ⟨ad', p, e, h1, h2, h3⟩ := h.at1 hk
  injection e with e
  subst e
  exact ⟨p, h1, h2, h3⟩
theorem Sl.ptr {w : World} {B : Nat} {A : Option Addr} {X : List Int} (h : Sl w B 1 A (rows X)) (hk : 0 < X.length) : ∃ ad, A = some ad := by
  obtain ⟨ad, p, e, _⟩ := h.at1 hk
  exact ⟨ad, e⟩
/-- n, moved into lo to hi. -/
def clipI (n lo hi : Int) : Int := if n < lo then lo else if hi < n then hi else n
theorem clipI_in (n lo hi : Int) (h : lo ≤ hi) : lo ≤ clipI n lo hi ∧ clipI n lo hi ≤ hi := by unfold clipI; split <;> (try split) <;> omega
def wiB (n lo hi : Int) : Bool := decide (lo ≤ n ∧ n ≤ hi)

end Go.Proofs.Ytmmplfokidnpnaa
