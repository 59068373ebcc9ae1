/- The document's numbers of layer 10: power, turn. -/
import Derived.Test.YtkcnllbfinjaiaaDoorFull
import Derived.Test.YtkcnllbfinjaiaaDoorParB
import Derived.Laws.DeepNot64
namespace Go.Proofs.YtkcnllbfinjaiaaDoor
open Go.RowKit

theorem i64_xor_nat (a b : Nat) (ha : a < 4294967296) (hb : b < 4294967296) : bits .xor .i64 (a : Int) (b : Int) = ((a ^^^ b : Nat) : Int) := by
  have hx : a ^^^ b < 2 ^ 32 := Nat.xor_lt_two_pow (by omega) (by omega)
  show IntKind.i64.wrap ((BitVec.ofInt 64 (a : Int) ^^^ BitVec.ofInt 64 (b : Int)).toNat : Int) = _
  rw [BitVec.toNat_xor, ofInt_u64 a (by omega), ofInt_u64 b (by omega)]
  simp [IntKind.wrap, IntKind.bits, IntKind.signed]
  omega
theorem i64_and_nat (a b : Nat) (ha : a < 4294967296) (hb : b < 4294967296) : bits .and .i64 (a : Int) (b : Int) = ((a &&& b : Nat) : Int) := by
  have hx : a &&& b < 2 ^ 32 := Nat.and_lt_two_pow _ (by omega)
  show IntKind.i64.wrap ((BitVec.ofInt 64 (a : Int) &&& BitVec.ofInt 64 (b : Int)).toNat : Int) = _
  rw [BitVec.toNat_and, ofInt_u64 a (by omega), ofInt_u64 b (by omega)]
  simp [IntKind.wrap, IntKind.bits, IntKind.signed]
  omega
theorem i_xor (x y : UInt32) : bits .xor .i64 (x.toNat : Int) (y.toNat : Int) = ((x ^^^ y).toNat : Int) := by
  rw [i64_xor_nat _ _ (u32_lt _) (u32_lt _), UInt32.toNat_xor]
theorem i_and (x y : UInt32) : bits .and .i64 (x.toNat : Int) (y.toNat : Int) = ((x &&& y).toNat : Int) := by
  rw [i64_and_nat _ _ (u32_lt _) (u32_lt _), UInt32.toNat_and]
theorem i_not (x : UInt32) : 4294967295 - (x.toNat : Int) = ((~~~x).toNat : Int) := by
  have h : (~~~x).toNat = 4294967296 - 1 - x.toNat := by
    rw [← UInt32.toNat_toBitVec, UInt32.toBitVec_not, BitVec.toNat_not, UInt32.toNat_toBitVec]
  have := u32_lt x
  omega

/-- A number turned right, as a sum. -/
theorem rotr_sum (x : UInt32) (n : Nat) (h1 : 1 ≤ n) (h2 : n ≤ 31) : (rotr x n).toNat = x.toNat / 2 ^ n + x.toNat % 2 ^ n * 2 ^ (32 - n) := by
  rw [rotr_toNat]
  have hx := u32_lt x
  have hp : 2 ^ n * 2 ^ (32 - n) = 4294967296 := by rw [← Nat.pow_add, show n + (32 - n) = 32 by omega]
  have e1 : x.toNat * 2 ^ (32 - n) % 4294967296 = (x.toNat % 2 ^ n) * 2 ^ (32 - n) := by
    rw [← hp, Nat.mul_mod_mul_right]
  have e2 : x.toNat / 2 ^ n < 2 ^ (32 - n) := by
    apply Nat.div_lt_of_lt_mul
    omega
  rw [e1, ← Nat.shiftLeft_eq, ← Nat.shiftLeft_add_eq_or_of_lt e2, Nat.add_comm, Nat.shiftLeft_eq]

set_option maxRecDepth 100000 in
set_option maxHeartbeats 1000000 in
theorem power_any (n : Nat) (w : World) (h : n ≤ 31) :
    Calls Tryd.prog 36 #[.int .i64 n] w fun e w' => e = .returned (.int .i64 ((2 ^ n : Nat) : Int)) ∧ w = w' := by
  go_enter Tryd.func36, Tryd.ntmps36
  go_wp2
  go_loopw [3, 4] (fun u3 u4 wr => ∃ k : Nat, k ≤ n ∧ u3 = .int .i64 ((2 ^ k : Nat) : Int) ∧ u4 = .int .i64 k ∧ w = wr) (fun _ u4 _ => n - (intOf u4).toNat)
  case atStart => exact ⟨0, by omega, rfl, rfl, rfl⟩
  case round =>
    obtain ⟨k, hk, rfl, rfl, rfl⟩ := hrel
    obtain ⟨p, hp⟩ : ∃ p, 2 ^ k = p := ⟨_, rfl⟩
    have hpl : p ≤ 2147483648 := by rw [← hp]; exact Nat.pow_le_pow_right (n := 2) (by omega) (show k ≤ 31 by omega)
    have hpn : 2 ^ (k + 1) = 2 * p := by rw [Nat.pow_succ, hp, Nat.mul_comm]
    by_cases hlt : k < n
    · rw [hp]
      have hpl' : (p : Int) ≤ 2147483648 := by omega
      have HP := Lib.hid hpn
      clear hp hpn
      go_wp2
      go_roundw
      case rel => exact ⟨k + 1, by omega, by rw [HP.out]; go_num, by go_num, by trivial⟩
      case measure => simp [intOf]; omega
    · obtain rfl : k = n := by omega
      go_wp2
      go_ret
      exact ⟨rfl, rfl⟩

set_option maxRecDepth 100000 in
set_option maxHeartbeats 1000000 in
theorem turn_any (x : UInt32) (n : Nat) (w : World) (h1 : 1 ≤ n) (h2 : n ≤ 31) :
    Calls Tryd.prog 34 #[.int .i64 x.toNat, .int .i64 n] w fun e w' => e = .returned (.int .i64 ((rotr x n).toNat : Int)) ∧ ∃ m, w' = w.drewN m := by
  have hr := rotr_sum x n h1 h2
  have hX := u32_lt x
  obtain ⟨p, hp⟩ : ∃ p, 2 ^ n = p := ⟨_, rfl⟩
  obtain ⟨q, hq⟩ : ∃ q, 2 ^ (32 - n) = q := ⟨_, rfl⟩
  have hpq : p * q = 4294967296 := by rw [← hp, ← hq, ← Nat.pow_add, show n + (32 - n) = 32 by omega]
  have hp1 : 0 < p := by rw [← hp]; exact Nat.pow_pos (by omega)
  have hpl : p ≤ 2147483648 := by rw [← hp]; exact Nat.pow_le_pow_right (n := 2) (by omega) (show n ≤ 31 by omega)
  obtain ⟨A, hA⟩ : ∃ A, x.toNat / p = A := ⟨_, rfl⟩
  obtain ⟨B, hB⟩ : ∃ B, x.toNat % p = B := ⟨_, rfl⟩
  obtain ⟨C, hC⟩ : ∃ C, B * q = C := ⟨_, rfl⟩
  have hAl : A ≤ 4294967296 := by rw [← hA]; exact Nat.le_trans (Nat.div_le_self _ _) (by omega)
  have hCl : C ≤ 4294967296 := by
    rw [← hC, ← hpq, ← hB]
    exact Nat.mul_le_mul_right _ (Nat.le_of_lt (Nat.mod_lt _ hp1))
  rw [hp, hq, hA, hB, hC] at hr
  have gA : (x.toNat : Int) / (p : Int) = (A : Int) := by rw [← hA, Int.natCast_ediv]
  have gB : (x.toNat : Int) % (p : Int) = (B : Int) := by rw [← hB, Int.natCast_emod]
  have gq : (4294967296 : Int) / (p : Int) = (q : Int) := by
    rw [show (4294967296 : Int) = ((4294967296 : Nat) : Int) from rfl, ← Int.natCast_ediv, ← hpq, Nat.mul_div_cancel_left _ hp1]
  have gC : (B : Int) * (q : Int) = (C : Int) := by rw [← hC, Int.natCast_mul]
  have hp1' : (0 : Int) < (p : Int) := by omega
  have hp2' : (1 : Int) ≤ (p : Int) := by omega
  have hX' : (x.toNat : Int) ≤ 4294967295 := by omega
  have hR := Lib.hid hr
  clear hr hpq hA hB hC hq
  have hpo := power_any n
  rw [hp] at hpo
  clear hp
  go_enter Tryd.func34, Tryd.ntmps34
  go_wp2_with (go_at_call 36; refine (hpo _ h2).mono ?_; rintro e w' ⟨rfl, rfl⟩)
  go_quiet (fail)
  go_wp2
  go_ret
  exact ⟨ret_int (by rw [hR.out]; omega), _, rfl⟩
end Go.Proofs.YtkcnllbfinjaiaaDoor
