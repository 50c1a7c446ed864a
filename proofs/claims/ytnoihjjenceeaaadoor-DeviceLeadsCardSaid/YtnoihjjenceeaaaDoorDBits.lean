/- Plain facts: the bits of a control word. -/
import Derived.Test.YtnoihjjenceeaaaDoorDNext
import Derived.Laws.Bits128
namespace Go.Proofs.YtnoihjjenceeaaaDoor

/-- A number as 64 bits. -/
def bv (c : Int) : BitVec 64 := BitVec.ofInt 64 c
theorem bv_wrap (x : BitVec 64) : bv (IntKind.i64.wrap (x.toNat : Int)) = x := by
  apply BitVec.eq_of_toNat_eq
  unfold bv
  rw [BitVec.toNat_ofInt, IntKind.wrap_i64]
  have := x.isLt
  omega
theorem and_bv (c m : Int) : bits .and .i64 c m = IntKind.i64.wrap ((bv c &&& bv m).toNat : Int) := rfl
theorem or_bv (c m : Int) : bv (bits .or .i64 c m) = bv c ||| bv m := by
  show bv (IntKind.i64.wrap ((bv c ||| bv m).toNat : Int)) = _
  rw [bv_wrap]
theorem andNot_bv (c m : Int) : bv (bits .andNot .i64 c m) = bv c &&& ~~~ bv m := by
  show bv (IntKind.i64.wrap ((bv c &&& ~~~ bv m).toNat : Int)) = _
  rw [bv_wrap]
theorem bt_bv (c m : Int) : bt c m = !((bv c &&& bv m) == 0#64) := by
  unfold bt
  rw [and_bv]
  by_cases h : bv c &&& bv m = 0#64
  · rw [h]
    rfl
  · have h2 : (bv c &&& bv m).toNat ≠ 0 := fun h3 => h (BitVec.eq_of_toNat_eq (by rw [h3]; rfl))
    have h3 : IntKind.i64.wrap ((bv c &&& bv m).toNat : Int) ≠ 0 := by
      rw [IntKind.wrap_i64]
      have := (bv c &&& bv m).isLt
      omega
    have h4 : ((bv c &&& bv m) == 0#64) = false := by simpa using h
    rw [h4]
    simpa using h3
theorem bt_andNot2 (c : Int) : bt (bits .andNot .i64 c 2) 2 = false := by
  rw [bt_bv, andNot_bv]
  have : (bv c &&& ~~~ bv 2) &&& bv 2 = 0#64 := by
    rw [BitVec.and_assoc]
    have h : ~~~ bv 2 &&& bv 2 = 0#64 := by decide
    rw [h, BitVec.and_zero]
  rw [this]
  rfl
theorem bt_andNot128 (c : Int) : bt (bits .andNot .i64 c 128) 128 = false := by
  rw [bt_bv, andNot_bv]
  have : (bv c &&& ~~~ bv 128) &&& bv 128 = 0#64 := by
    rw [BitVec.and_assoc]
    have h : ~~~ bv 128 &&& bv 128 = 0#64 := by decide
    rw [h, BitVec.and_zero]
  rw [this]
  rfl
theorem bt_or128 (c : Int) : bt (bits .or .i64 c 128) 128 = true := by
  rw [bt_bv, or_bv]
  have : (bv c ||| bv 128) &&& bv 128 = bv 128 := by
    apply BitVec.eq_of_getLsbD_eq
    intro i hi
    simp only [BitVec.getLsbD_and, BitVec.getLsbD_or]
    cases (bv c).getLsbD i <;> cases (bv 128).getLsbD i <;> rfl
  rw [this]
  decide
/-- A bit, out of the number below 2^64. -/
theorem bt_pow (c : Int) (i : Nat) (m : Int) (hm : bv m = BitVec.twoPow 64 i) (hi : i < 64) : bt c m = decide ((bv c).toNat / 2 ^ i % 2 = 1) := by
  rw [bt_bv, hm, BitVec.and_twoPow, ← Nat.testBit_eq_decide_div_mod_eq]
  show _ = (bv c).getLsbD i
  cases h : (bv c).getLsbD i with
  | false => simp
  | true =>
    have h2 : BitVec.twoPow 64 i ≠ 0#64 := by
      intro h3
      have := congrArg (fun x => x.getLsbD i) h3
      simp [hi] at this
    have h4 : (BitVec.twoPow 64 i == 0#64) = false := by simpa using h2
    simp [h4]
theorem bt1 (c : Int) : bt c 1 = decide ((bv c).toNat % 2 = 1) := by
  rw [bt_pow c 0 1 (by decide) (by decide)]
  simp
theorem bt2 (c : Int) : bt c 2 = decide ((bv c).toNat / 2 % 2 = 1) := bt_pow c 1 2 (by decide) (by decide)
theorem bt4 (c : Int) : bt c 4 = decide ((bv c).toNat / 4 % 2 = 1) := bt_pow c 2 4 (by decide) (by decide)
theorem bt8 (c : Int) : bt c 8 = decide ((bv c).toNat / 8 % 2 = 1) := bt_pow c 3 8 (by decide) (by decide)
theorem and_mask (c : Int) (k : Nat) (m : Int) (hm : (bv m).toNat = 2 ^ k - 1) (hk : k < 60) : bits .and .i64 c m = (((bv c).toNat % 2 ^ k : Nat) : Int) := by
  rw [and_bv, BitVec.toNat_and, hm, Nat.and_two_pow_sub_one_eq_mod, IntKind.wrap_i64]
  have h1 : (bv c).toNat % 2 ^ k < 2 ^ k := Nat.mod_lt _ (Nat.two_pow_pos k)
  have h2 : 2 ^ k ≤ 2 ^ 60 := Nat.pow_le_pow_right (by decide) (by omega)
  omega
theorem and15 (c : Int) : bits .and .i64 c 15 = (((bv c).toNat % 16 : Nat) : Int) := and_mask c 4 15 (by decide) (by decide)
theorem and7 (c : Int) : bits .and .i64 c 7 = (((bv c).toNat % 8 : Nat) : Int) := and_mask c 3 7 (by decide) (by decide)

end Go.Proofs.YtnoihjjenceeaaaDoor
