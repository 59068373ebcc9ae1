/- Words, walks and plain laws that the claim leans on, part 11. -/
import Derived.Test.YtiodmhcmciohnaaG6
import Derived.Laws.BitsAllLaws

/-! Bits of small ints. -/
namespace Go.Proofs.Ytiodmhcmciohnaa
set_option linter.unusedVariables false
set_option linter.unusedSimpArgs false
open Go.RowKit

theorem i64_fit (x : Int) (h1 : -9223372036854775808 ≤ x) (h2 : x ≤ 9223372036854775807) : IntKind.i64.wrap x = x := by
  simp [IntKind.wrap, IntKind.bits, IntKind.signed]
  omega
theorem i64_and_nat (a b : Nat) (ha : a < 4294967296) (hb : b < 4294967296) : bits .and .i64 (a : Int) (b : Int) = ((a &&& b : Nat) : Int) := by
  have hx : a &&& b < 2 ^ 32 := Nat.and_lt_two_pow _ (by omega)
  show IntKind.i64.wrap ((BitVec.ofInt 64 (a : Int) &&& BitVec.ofInt 64 (b : Int)).toNat : Int) = _
  rw [BitVec.toNat_and, ofInt_u64 a (by omega), ofInt_u64 b (by omega)]
  exact i64_fit _ (by omega) (by omega)
theorem i64_or_nat (a b : Nat) (ha : a < 4294967296) (hb : b < 4294967296) : bits .or .i64 (a : Int) (b : Int) = ((a ||| b : Nat) : Int) := by
  have hx : a ||| b < 2 ^ 32 := Nat.or_lt_two_pow (by omega) (by omega)
  show IntKind.i64.wrap ((BitVec.ofInt 64 (a : Int) ||| BitVec.ofInt 64 (b : Int)).toNat : Int) = _
  rw [BitVec.toNat_or, ofInt_u64 a (by omega), ofInt_u64 b (by omega)]
  exact i64_fit _ (by omega) (by omega)
theorem i64_low16 (n : Nat) (h : n < 4294967296) : bits .and .i64 (n : Int) 65535 = ((n % 65536 : Nat) : Int) := by
  have := i64_and_nat n 65535 h (by omega)
  rw [show ((65535 : Nat) : Int) = 65535 from rfl] at this
  rw [this, show (65535 : Nat) = 2 ^ 16 - 1 from rfl, Nat.and_two_pow_sub_one_eq_mod]
/-- A byte and what stands eight bits higher. -/
theorem or_byte (a b : Nat) (hb : b < 256) : b ||| a * 256 = 256 * a + b := by
  rw [Nat.or_comm, show a * 256 = a <<< 8 by rw [Nat.shiftLeft_eq], ← Nat.shiftLeft_add_eq_or_of_lt (by omega), Nat.shiftLeft_eq]
  omega
theorem or_byte' (a b : Nat) (hb : b < 256) : a * 256 ||| b = 256 * a + b := by rw [Nat.or_comm]; exact or_byte a b hb

/-- A slice that is read, cut as the machine cuts. -/
theorem BAt.cut {w : World} {p : Nat → Prop} {g off n c : Nat} {l : List UInt8} (h : BAt w p (.slice (some ⟨g, off, none⟩) n c) l) (k : Nat) (hk : k ≤ l.length) :
    ∃ o2, (if c = k then some (⟨g, off, none⟩ : Addr) else some ⟨g, off + k, none⟩) = some ⟨g, o2, none⟩ ∧ BAt w p (.slice (some ⟨g, o2, none⟩) (n - k) (c - k)) (l.drop k) ∧ n = l.length := by
  obtain ⟨h1, a, c1, e, h3, h4, h5⟩ := h
  simp only [Value.slice.injEq] at e
  obtain ⟨e1, hn, rfl⟩ := e
  have hl : (l.drop k).length = n - k := by rw [List.length_drop]; omega
  by_cases hck : c = k
  · rw [if_pos hck]
    refine ⟨off, rfl, ?_, hn⟩
    have hz : l.drop k = [] := List.drop_eq_nil_of_le (by omega)
    rw [hz]
    exact ⟨by simp [bcells], _, c - k, by rw [show n - k = 0 by omega]; rfl, by simp, by omega, .inl rfl⟩
  · rw [if_neg hck]
    refine ⟨off + k, rfl, ⟨by rw [bcells_length]; omega, _, c - k, by rw [hl], by omega, by omega, ?_⟩, hn⟩
    rcases h5 with h5 | ⟨b', off', hb, ha, hx⟩
    · left
      have : (bcells l).length = 0 := by rw [h5]; rfl
      rw [bcells_length] at this
      rw [List.drop_eq_nil_of_le (by omega)]
      rfl
    · right
      rw [← e1] at ha
      simp only [Option.some.injEq, Addr.mk.injEq, and_true] at ha
      obtain ⟨rfl, rfl⟩ := ha
      refine ⟨g, off + k, hb, rfl, fun j u hu => ?_⟩
      rw [Nat.add_assoc]
      refine hx (k + j) u ?_
      rw [← hu]
      simp [bcells, List.getElem?_drop]
end Go.Proofs.Ytiodmhcmciohnaa
