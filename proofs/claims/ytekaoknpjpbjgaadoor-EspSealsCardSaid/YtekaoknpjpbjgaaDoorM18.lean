/- Words, walks and plain laws that the claim leans on, part 18. -/
import Derived.Test.YtekaoknpjpbjgaaDoorM8
import Derived.Test.YtekaoknpjpbjgaaDoorM12
import Derived.Test.YtekaoknpjpbjgaaDoorM16
import Derived.Laws.DeepNot64

/-! The document's numbers of layer 10: power, turn. -/
namespace Go.Proofs.YtekaoknpjpbjgaaDoor
set_option linter.unusedVariables false
set_option linter.unusedSimpArgs false
open Go.RowKit

theorem i64_xor_nat (a b : Nat) (ha : a < 4294967296) (hb : b < 4294967296) : bits .xor .i64 (a : Int) (b : Int) = ((a ^^^ b : Nat) : Int) := by
  have hx : a ^^^ b < 2 ^ 32 := Nat.xor_lt_two_pow (by omega) (by omega)
  show IntKind.i64.wrap ((BitVec.ofInt 64 (a : Int) ^^^ BitVec.ofInt 64 (b : Int)).toNat : Int) = _
  rw [BitVec.toNat_xor, ofInt_u64 a (by omega), ofInt_u64 b (by omega)]
  simp [IntKind.wrap, IntKind.bits, IntKind.signed]
  omega
theorem i64_and_nat (a b : Nat) (ha : a < 4294967296) (hb : b < 4294967296) : bits .and .i64 (a : Int) (b : Int) = ((a &&& b : Nat) : Int) := by
  have hx : a &&& b < 2 ^ 32 := Nat.and_lt_two_pow _ (by omega)
  show IntKind.i64.wrap ((BitVec.ofInt 64 (a : Int) &&& BitVec.ofInt 64 (b : Int)).toNat : Int) = _
  rw [BitVec.toNat_and, ofInt_u64 a (by omega), ofInt_u64 b (by omega)]
  simp [IntKind.wrap, IntKind.bits, IntKind.signed]
  omega
theorem i_xor (x y : UInt32) : bits .xor .i64 (x.toNat : Int) (y.toNat : Int) = ((x ^^^ y).toNat : Int) := by
  rw [i64_xor_nat _ _ (u32_lt _) (u32_lt _), UInt32.toNat_xor]
theorem i_and (x y : UInt32) : bits .and .i64 (x.toNat : Int) (y.toNat : Int) = ((x &&& y).toNat : Int) := by
  rw [i64_and_nat _ _ (u32_lt _) (u32_lt _), UInt32.toNat_and]
theorem i_not (x : UInt32) : 4294967295 - (x.toNat : Int) = ((~~~x).toNat : Int) := by
  have h : (~~~x).toNat = 4294967296 - 1 - x.toNat := by
    rw [← UInt32.toNat_toBitVec, UInt32.toBitVec_not, BitVec.toNat_not, UInt32.toNat_toBitVec]
  have := u32_lt x
  omega

/-- A number turned right, as a sum. -/
theorem rotr_sum (x : UInt32) (n : Nat) (h1 : 1 ≤ n) (h2 : n ≤ 31) : (rotr x n).toNat = x.toNat / 2 ^ n + x.toNat % 2 ^ n * 2 ^ (32 - n) := by
  rw [rotr_toNat]
  have hx := u32_lt x
  have hp : 2 ^ n * 2 ^ (32 - n) = 4294967296 := by rw [← Nat.pow_add, show n + (32 - n) = 32 by omega]
  have e1 : x.toNat * 2 ^ (32 - n) % 4294967296 = (x.toNat % 2 ^ n) * 2 ^ (32 - n) := by
    rw [← hp, Nat.mul_mod_mul_right]
  have e2 : x.toNat / 2 ^ n < 2 ^ (32 - n) := by
    apply Nat.div_lt_of_lt_mul
    omega
  rw [e1, ← Nat.shiftLeft_eq, ← Nat.shiftLeft_add_eq_or_of_lt e2, Nat.add_comm, Nat.shiftLeft_eq]

set_option maxRecDepth 100000 in
set_option maxHeartbeats 1000000 in
theorem power_any (n : Nat) (w : World) (h : n ≤ 31) :
    Calls Tryd.prog 96 #[.int .i64 n] w fun e w' => e = .returned (.int .i64 ((2 ^ n : Nat) : Int)) ∧ w = w' := by
  go_enter Tryd.func96, Tryd.ntmps96
  go_wp2
  go_loopw [3, 4] (fun u3 u4 wr => ∃ k : Nat, k ≤ n ∧ u3 = .int .i64 ((2 ^ k : Nat) : Int) ∧ u4 = .int .i64 k ∧ w = wr) (fun _ u4 _ => n - (intOf u4).toNat)
  case atStart => exact ⟨0, by omega, rfl, rfl, rfl⟩
  case round =>
    obtain ⟨k, hk, rfl, rfl, rfl⟩ := hrel
    obtain ⟨p, hp⟩ : ∃ p, 2 ^ k = p := ⟨_, rfl⟩
    have hpl : p ≤ 2147483648 := by rw [← hp]; exact Nat.pow_le_pow_right (n := 2) (by omega) (show k ≤ 31 by omega)
    have hpn : 2 ^ (k + 1) = 2 * p := by rw [Nat.pow_succ, hp, Nat.mul_comm]
    by_cases hlt : k < n
    · rw [hp]
      have hpl' : (p : Int) ≤ 2147483648 := by omega
      have HP := Lib.hid hpn
      clear hp hpn
      go_wp2
      go_roundw
      case rel => exact ⟨k + 1, by omega, by rw [HP.out]; go_num, by go_num, by trivial⟩
      case measure => simp [intOf]; omega
    · obtain rfl : k = n := by omega
      go_wp2
      go_ret
      exact ⟨rfl, rfl⟩

set_option maxRecDepth 100000 in
set_option maxHeartbeats 1000000 in
theorem turn_any (x : UInt32) (n : Nat) (w : World) (h1 : 1 ≤ n) (h2 : n ≤ 31) :
    Calls Tryd.prog 93 #[.int .i64 x.toNat, .int .i64 n] w fun e w' => e = .returned (.int .i64 ((rotr x n).toNat : Int)) ∧ ∃ m, w' = w.drewN m := by
  have hr := rotr_sum x n h1 h2
  have hX := u32_lt x
  obtain ⟨p, hp⟩ : ∃ p, 2 ^ n = p := ⟨_, rfl⟩
  obtain ⟨q, hq⟩ : ∃ q, 2 ^ (32 - n) = q := ⟨_, rfl⟩
  have hpq : p * q = 4294967296 := by rw [← hp, ← hq, ← Nat.pow_add, show n + (32 - n) = 32 by omega]
  have hp1 : 0 < p := by rw [← hp]; exact Nat.pow_pos (by omega)
  have hpl : p ≤ 2147483648 := by rw [← hp]; exact Nat.pow_le_pow_right (n := 2) (by omega) (show n ≤ 31 by omega)
  obtain ⟨A, hA⟩ : ∃ A, x.toNat / p = A := ⟨_, rfl⟩
  obtain ⟨B, hB⟩ : ∃ B, x.toNat % p = B := ⟨_, rfl⟩
  obtain ⟨C, hC⟩ : ∃ C, B * q = C := ⟨_, rfl⟩
  have hAl : A ≤ 4294967296 := by rw [← hA]; exact Nat.le_trans (Nat.div_le_self _ _) (by omega)
  have hCl : C ≤ 4294967296 := by
    rw [← hC, ← hpq, ← hB]
    exact Nat.mul_le_mul_right _ (Nat.le_of_lt (Nat.mod_lt _ hp1))
  rw [hp, hq, hA, hB, hC] at hr
  have gA : (x.toNat : Int) / (p : Int) = (A : Int) := by rw [← hA, Int.natCast_ediv]
  have gB : (x.toNat : Int) % (p : Int) = (B : Int) := by rw [← hB, Int.natCast_emod]
  have gq : (4294967296 : Int) / (p : Int) = (q : Int) := by
    rw [show (4294967296 : Int) = ((4294967296 : Nat) : Int) from rfl, ← Int.natCast_ediv, ← hpq, Nat.mul_div_cancel_left _ hp1]
  have gC : (B : Int) * (q : Int) = (C : Int) := by rw [← hC, Int.natCast_mul]
  have hp1' : (0 : Int) < (p : Int) := by omega
  have hp2' : (1 : Int) ≤ (p : Int) := by omega
  have hX' : (x.toNat : Int) ≤ 4294967295 := by omega
  have hR := Lib.hid hr
  clear hr hpq hA hB hC hq
  have hpo := power_any n
  rw [hp] at hpo
  clear hp
  go_enter Tryd.func93, Tryd.ntmps93
  go_wp2_with (go_at_call 96; refine (hpo _ h2).mono ?_; rintro e w' ⟨rfl, rfl⟩)
  go_quiet (fail)
  go_wp2
  go_ret
  exact ⟨ret_int (by rw [hR.out]; omega), _, rfl⟩
end Go.Proofs.YtekaoknpjpbjgaaDoor

/-! redoubtref01.Four; redoubtref11.with. -/
namespace Go.Proofs.YtekaoknpjpbjgaaDoor
set_option linter.unusedVariables false
set_option linter.unusedSimpArgs false
open Go.RowKit

theorem BOwn.lit (w : World) (cs : Array Value) (l : List UInt8) (n B : Nat) (h : cs = (bcells l).toArray) (hn : l.length = n) (hm : n ≤ 1099511627776) (hB : B ≤ w.heap.size) : BOwn (w.alloc (.cells cs 5)) B (.slice (some ⟨w.heap.size, 0, none⟩) n n) l := by
  subst h hn
  refine ⟨by simp [bcells], bcells_one _, .inr ⟨w.heap.size, 0, l.length, _, hB, rfl, Nat.le_refl _, by simp only [maxLen]; omega, RowAt.new w _ _, by simp [bcells], fun j hj => by rw [Nat.zero_add, List.getElem?_toArray]⟩⟩

set_option maxRecDepth 100000 in
set_option maxHeartbeats 2000000 in
theorem four_any (x : UInt32) (w : World) : Calls Tryd.prog 33 #[.int .i64 x.toNat] w (Gives (b4 x) w) := by
  have hx := u32_lt x
  have h0 : (0 : Int) ≤ (x.toNat : Int) := by omega
  have hc := b4_cells x
  have e1 : ((x.toNat : Int) / 16777216 % 256) = ((x.toNat : Int) / 16777216) := by omega
  rw [e1] at hc
  have HC := Lib.hid hc
  clear hc e1
  go_enter Tryd.func33, Tryd.ntmps33
  go_wp2
  go_ret
  exact ⟨_, rfl, BOwn.lit w _ (b4 x) 4 _ HC.out rfl (by omega) (Nat.le_refl _), (Keeps.refl _ _).alloc _⟩

/-- The row so far. -/
def wrow (L : List UInt8) (x : UInt8) (k : Nat) : List UInt8 := (withL L x).take k ++ List.replicate (64 - k) 0
theorem wrow_len (L : List UInt8) (x : UInt8) (k : Nat) (hk : k ≤ 64) (hl : L.length = 64) : (wrow L x k).length = 64 := by
  simp [wrow, withL]
  omega
theorem wrow_step (L : List UInt8) (x : UInt8) (k : Nat) (hk : k < 64) (hl : L.length = 64) : (wrow L x k).set k (L.getD k 0 ^^^ x) = wrow L x (k + 1) := by
  have hwl : (withL L x).length = 64 := by simp [withL, hl]
  have hget : (withL L x)[k]'(by omega) = L.getD k 0 ^^^ x := by
    simp only [withL, List.getElem_map]
    simp [show k < L.length by omega]
  unfold wrow
  rw [List.set_append_right _ _ (by rw [List.length_take]; omega), List.length_take, show k - min k (withL L x).length = 0 by omega, show 64 - k = (64 - (k + 1)) + 1 by omega,
    List.replicate_succ, List.set_cons_zero, List.take_succ_eq_append_getElem (by omega), List.append_assoc, hget]
  rfl
theorem wrow_full (L : List UInt8) (x : UInt8) (hl : L.length = 64) : wrow L x 64 = withL L x := by
  unfold wrow
  rw [List.take_of_length_le (by simp [withL, hl]), Nat.sub_self]
  simp
theorem wrow_none (L : List UInt8) (x : UInt8) : wrow L x 0 = List.replicate 64 0 := rfl

set_option maxRecDepth 100000 in
set_option maxHeartbeats 2000000 in
theorem rwith_any (v : Value) (key : List UInt8) (x : UInt8) (w : World) (h : BRd w v key) (hl : key.length ≤ 64) :
    Calls Tryd.prog 73 #[v, .int .u8 (x.toNat : Int)] w (Gives (withL (key ++ List.replicate (64 - key.length) 0) x) w) := by
  obtain ⟨a, c, rfl, hc, hm⟩ := h.slice
  have hL : (key ++ List.replicate (64 - key.length) (0 : UInt8)).length = 64 := by simp; omega
  obtain ⟨L, hLe⟩ : ∃ L, key ++ List.replicate (64 - key.length) (0 : UInt8) = L := ⟨_, rfl⟩
  rw [hLe] at hL ⊢
  have HL := Lib.hid hL
  have HE := Lib.hid hLe
  clear hL hLe
  simp only [maxLen] at hm
  have hl' : (key.length : Int) ≤ 64 := by omega
  go_enter Tryd.func73, Tryd.ntmps73
  go_wp2_with (at_make; (refine wpList_make_bytes rfl (.const (.int .i64 64)) (.const (.int .i64 64)) rfl w.heap.size _ _ 64 64 rfl rfl rfl rfl (by omega) (by omega) (Nat.le_refl _) (fun w1 h1 hk1 => ?_)))
  go_loopw [6] (fun u6 wr => ∃ k : Nat, k ≤ 64 ∧ u6 = .int .i64 k ∧ BOwn wr w.heap.size (.slice (some ⟨w.heap.size, 0, none⟩) 64 64) (wrow L x k) ∧ Keeps (fun _ => False) w wr) (fun u6 _ => 64 - (intOf u6).toNat)
  case atStart => exact ⟨0, by omega, rfl, h1, hk1⟩
  case round =>
    obtain ⟨k, hk, rfl, ho, hkw⟩ := hrel
    by_cases hlt : k < 64
    · have hlt' : (k : Int) < 64 := by omega
      have hst := wrow_step L x k hlt HL.out
      obtain ⟨t1, t2, t3⟩ := ho.at k (by rw [wrow_len L x k hk HL.out]; exact hlt)
      rw [Nat.zero_add] at t1 t2 t3
      by_cases hin : k < key.length
      · have hin' : (k : Int) < (key.length : Int) := by omega
        obtain ⟨b, off, c', e, -, -, hb, hcell⟩ := BAt.get h (by omega)
        simp only [Value.slice.injEq] at e
        obtain ⟨rfl, -, rfl⟩ := e
        have hx0 := hkw.cell (hcell k hin) (fun h => h)
        have hg : L.getD k 0 = key[k] := by rw [← HE.out]; simp [List.getElem?_append_left hin, hin]
        obtain ⟨y, hy⟩ : ∃ y, key[k] = y := ⟨_, rfl⟩
        rw [hy] at hx0 hg
        have hxor : bits .xor .u8 (x.toNat : Int) (y.toNat : Int) = ((L.getD k 0 ^^^ x).toNat : Int) := by
          rw [hg, UInt8.xor_comm]
          have e8 := u8_xor_nat x.toNat y.toNat (by have := x.toNat_lt; omega) (by have := y.toNat_lt; omega)
          rw [e8, UInt8.toNat_xor]
        obtain ⟨Z, hZ⟩ : ∃ Z, L.getD k 0 ^^^ x = Z := ⟨_, rfl⟩
        rw [hZ] at hxor hst
        have u1 := t3 x
        obtain ⟨-, v2, v3⟩ := u1.at k (by rw [List.length_set, wrow_len L x k hk HL.out]; exact hlt)
        rw [Nat.zero_add] at v2 v3
        have v4 := v3 Z
        rw [List.set_set, hst] at v4
        have HV := Lib.hid v4
        have hx1 := (Keeps.setCell (S := (· = w.heap.size)) (Keeps.refl _ wr) ⟨w.heap.size, k, none⟩ (.int .u8 (x.toNat : Int)) (.inl rfl)).cell hx0 (fun e => by simp only at e; omega)
        clear v3 v4 t3 hst hZ hy hg hcell u1
        go_wp2
        go_roundw
        case rel => exact ⟨k + 1, by omega, by go_num, HV.out, (hkw.setCell _ _ (.inr (by simp))).setCell _ _ (.inr (by simp))⟩
        case measure => simp [intOf]; omega
      · have hin' : (key.length : Int) ≤ (k : Int) := by omega
        have hg : L.getD k 0 = 0 := by
          rw [← HE.out, List.getD_eq_getElem?_getD, List.getElem?_append_right (by omega), List.getElem?_replicate]
          split <;> rfl
        have t4 := t3 x
        rw [hg, UInt8.zero_xor] at hst
        rw [hst] at t4
        have HV := Lib.hid t4
        clear t3 t4 hst hg
        go_wp2
        go_roundw
        case rel => exact ⟨k + 1, by omega, by go_num, HV.out, hkw.setCell _ _ (.inr (by simp))⟩
        case measure => simp [intOf]; omega
    · have hk64 : k = 64 := by omega
      have hk64' : (64 : Int) ≤ (k : Int) := by omega
      rw [hk64, wrow_full L x HL.out] at ho
      clear hk64
      go_wp2
      go_ret
      exact ⟨_, rfl, ho, hkw⟩
end Go.Proofs.YtekaoknpjpbjgaaDoor
