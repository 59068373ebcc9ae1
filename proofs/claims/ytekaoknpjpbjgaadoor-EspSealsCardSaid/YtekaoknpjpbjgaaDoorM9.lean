/- Words, walks and plain laws that the claim leans on, part 9. -/
import Derived.Test.YtekaoknpjpbjgaaDoorM3
import Derived.Laws.ShiftsVarLaws

/-! Turning 32 bits right. -/
namespace Go.Proofs.YtekaoknpjpbjgaaDoor
set_option linter.unusedVariables false
set_option linter.unusedSimpArgs false
open Go.RowKit

theorem turn_count (n : Int) (h1 : 1 ≤ n) (h2 : n ≤ 31) : bits .and .u64 (IntKind.u64.wrap (-n)) 31 = 32 - n := by
  have hw : IntKind.u64.wrap (-n) = 18446744073709551616 - n := by rw [IntKind.wrap_u64]; omega
  rw [hw, u64_and _ _ (by omega) (by omega) (by omega) (by omega)]
  have h31 : (31 : Int).toNat = 31 := rfl
  rw [h31, nat_mask5]
  omega

/-- x turned right by n. -/
def rotr (x : UInt32) (n : Nat) : UInt32 := UInt32.ofNat ((x.toNat * 2 ^ (32 - n) % 4294967296) ||| (x.toNat / 2 ^ n))
theorem u32_lt (x : UInt32) : x.toNat < 4294967296 := x.toNat_lt
theorem ofNat_toNat {n : Nat} (h : n < 4294967296) : (UInt32.ofNat n).toNat = n := by
  rw [UInt32.toNat_ofNat']
  exact Nat.mod_eq_of_lt h
theorem rotr_toNat (x : UInt32) (n : Nat) : (rotr x n).toNat = (x.toNat * 2 ^ (32 - n) % 4294967296) ||| (x.toNat / 2 ^ n) := by
  refine ofNat_toNat (Nat.or_lt_two_pow (n := 32) (Nat.mod_lt _ (by omega)) ?_)
  exact Nat.lt_of_le_of_lt (Nat.div_le_self _ _) (u32_lt x)

set_option maxRecDepth 100000 in
set_option maxHeartbeats 1000000 in
theorem rotl_any (x : UInt32) (n : Int) (w : World) (h1 : 1 ≤ n) (h2 : n ≤ 31) :
    Calls Tryd.prog 94 #[.int .u32 x.toNat, .int .i64 (-n)] w fun e w' => e = .returned (.int .u32 (rotr x n.toNat).toNat) ∧ w = w' := by
  have hc := turn_count n h1 h2
  go_enter Tryd.func94, Tryd.ntmps94
  go_wp2
  go_ret
  refine ⟨ret_int ?_, rfl⟩
  have e1 : (32 - n).toNat = 32 - n.toNat := by omega
  have e2 : (32 - (32 - n)).toNat = n.toNat := by omega
  rw [rotr_toNat, e1, e2]
  have a1 : ((x.toNat : Int) * 2 ^ (32 - n.toNat) % 4294967296) = ((x.toNat * 2 ^ (32 - n.toNat) % 4294967296 : Nat) : Int) := by rw [Int.natCast_emod, Int.natCast_mul, Int.natCast_pow]; rfl
  have a2 : ((x.toNat : Int) / 2 ^ n.toNat) = ((x.toNat / 2 ^ n.toNat : Nat) : Int) := by rw [Int.natCast_ediv, Int.natCast_pow]; rfl
  rw [a1, a2]
  exact u32_or_nat _ _ (Nat.mod_lt _ (by omega)) (Nat.lt_of_le_of_lt (Nat.div_le_self _ _) (u32_lt x))

set_option maxRecDepth 100000 in
set_option maxHeartbeats 1000000 in
theorem right_any (x : UInt32) (n : Int) (w : World) (h1 : 1 ≤ n) (h2 : n ≤ 31) :
    Calls Tryd.prog 88 #[.int .u32 x.toNat, .int .i64 n] w fun e w' => e = .returned (.int .u32 (rotr x n.toNat).toNat) ∧ w = w' := by
  go_enter Tryd.func88, Tryd.ntmps88
  go_wp2_with (go_at_call 94; refine (rotl_any x n _ h1 h2).mono ?_; rintro e w' ⟨rfl, rfl⟩)
  go_ret
  exact ⟨rfl, rfl⟩

/-! ### What the machine reckons on 32 bits, as UInt32 -/
theorem m_add (x y : UInt32) : IntKind.u32.wrap ((x.toNat : Int) + (y.toNat : Int)) = ((x + y).toNat : Int) := by
  rw [IntKind.wrap_u32', UInt32.toNat_add]; omega
theorem m_xor (x y : UInt32) : bits .xor .u32 (x.toNat : Int) (y.toNat : Int) = ((x ^^^ y).toNat : Int) := by
  rw [u32_xor_nat _ _ (u32_lt _) (u32_lt _), UInt32.toNat_xor]
theorem m_or (x y : UInt32) : bits .or .u32 (x.toNat : Int) (y.toNat : Int) = ((x ||| y).toNat : Int) := by
  rw [u32_or_nat _ _ (u32_lt _) (u32_lt _), UInt32.toNat_or]
theorem m_and (x y : UInt32) : bits .and .u32 (x.toNat : Int) (y.toNat : Int) = ((x &&& y).toNat : Int) := by
  rw [u32_and_nat _ _ (u32_lt _) (u32_lt _), UInt32.toNat_and]
/-- x moved right. -/
def shrN (x : UInt32) (n : Nat) : UInt32 := UInt32.ofNat (x.toNat / 2 ^ n)
theorem shrN_toNat (x : UInt32) (n : Nat) : (shrN x n).toNat = x.toNat / 2 ^ n := ofNat_toNat (Nat.lt_of_le_of_lt (Nat.div_le_self _ _) (u32_lt x))

end Go.Proofs.YtekaoknpjpbjgaaDoor
