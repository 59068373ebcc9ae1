/- mac.Same: it tells whether two rows of bytes are the same. -/
import Derived.Test.YtkcnllbfinjaiaaDoorBytes
namespace Go.Proofs.YtkcnllbfinjaiaaDoor
open Go.RowKit

theorem u8_lt (a : UInt8) : a.toNat < 256 := a.toNat_lt
theorem or_zero_nat {a b : Nat} : a ||| b = 0 ↔ a = 0 ∧ b = 0 := Nat.or_eq_zero_iff
theorem same_step (l m : List UInt8) (k : Nat) (n : Nat) (hl : k < l.length) (hm : k < m.length) (h : n = 0 ↔ l.take k = m.take k) :
    (n ||| (l[k].toNat ^^^ m[k].toNat) = 0 ↔ l.take (k + 1) = m.take (k + 1)) := by
  rw [or_zero_nat, h, List.take_succ_eq_append_getElem hl, List.take_succ_eq_append_getElem hm]
  have hx : (l[k].toNat ^^^ m[k].toNat = 0) ↔ l[k] = m[k] := by
    constructor
    · intro h
      refine UInt8.toNat_inj.1 (Nat.eq_of_testBit_eq fun i => ?_)
      have := congrArg (fun x => Nat.testBit x i) h
      simpa using this
    · intro h; rw [h, Nat.xor_self]
  rw [hx]
  constructor
  · rintro ⟨h1, h2⟩; rw [h1, h2]
  · intro h
    obtain ⟨h1, h2⟩ := List.append_inj' h rfl
    exact ⟨h1, by simpa using h2⟩

set_option maxRecDepth 100000 in
set_option maxHeartbeats 1000000 in
theorem same_any (va vb : Value) (l m : List UInt8) (w : World) (p q : Nat → Prop) (ha : BAt w p va l) (hb : BAt w q vb m) :
    Calls Tryd.prog 8 #[va, vb] w fun e w' => e = .returned (.bool (decide (l = m))) ∧ w = w' := by
  obtain ⟨a, c, rfl, hc, hcm⟩ := ha.slice
  obtain ⟨a', c', rfl, hc', hcm'⟩ := hb.slice
  simp only [maxLen] at hcm hcm'
  by_cases hlen : l.length = m.length
  · have hne : ((l.length : Int) != (m.length : Int)) = false := by rw [bne_eq_false_iff_eq]; omega
    have HL := Lib.hid hlen
    go_enter Tryd.func8, Tryd.ntmps8
    clear hlen
    go_wp2
    go_loop [5, 15] (fun u5 u15 => ∃ k n : Nat, k ≤ l.length ∧ u15 = .int .i64 k ∧ u5 = .int .u8 n ∧ n < 256 ∧ (n = 0 ↔ l.take k = m.take k)) (fun _ u15 => l.length - (intOf u15).toNat)
    case atStart => exact ⟨0, 0, by omega, rfl, rfl, by omega, by simp⟩
    case round =>
      obtain ⟨k, n, hk, rfl, rfl, hn, hz⟩ := hrel
      by_cases hlt : k < l.length
      · have hlt' : k < m.length := by have := HL.out; omega
        obtain ⟨b, off, c1, e1, -, -, -, h1⟩ := ha.get (by omega)
        obtain ⟨b', off', c2, e2, -, -, -, h2⟩ := hb.get (by omega)
        simp only [Value.slice.injEq] at e1 e2
        obtain ⟨rfl, -, rfl⟩ := e1
        obtain ⟨rfl, -, rfl⟩ := e2
        have g1 := h1 k hlt
        have g2 := h2 k hlt'
        have hs := Lib.hid (same_step l m k n hlt hlt' hz)
        have HZ := Lib.hid hz
        have hx : l[k].toNat ^^^ m[k].toNat < 256 := Nat.xor_lt_two_pow (n := 8) (u8_lt _) (u8_lt _)
        have ho : n ||| (l[k].toNat ^^^ m[k].toNat) < 256 := Nat.or_lt_two_pow (n := 8) hn hx
        have X := Lib.hid (u8_xor_nat l[k].toNat m[k].toNat (u8_lt _) (u8_lt _))
        have O := Lib.hid (u8_or_nat n (l[k].toNat ^^^ m[k].toNat) hn hx)
        clear h1 h2 hz
        go_wp2
        go_round
        case rel => exact ⟨k + 1, _, by omega, by go_num, by rw [X.out, O.out], ho, hs.out⟩
        case measure => simp [intOf]; omega
      · obtain rfl : k = l.length := by omega
        have hz' : n = 0 ↔ l = m := by
          rw [hz, List.take_length]
          have := HL.out
          rw [List.take_of_length_le (by omega : m.length ≤ l.length)]
        clear hz
        have HZ := Lib.hid hz'
        clear hz'
        go_wp2
        go_ret
        refine ⟨ret_bool ?_, rfl⟩
        rw [Bool.eq_iff_iff]
        simp only [beq_iff_eq, decide_eq_true_eq]
        rw [← HZ.out]
        omega
  · have hne : ((l.length : Int) != (m.length : Int)) = true := by rw [bne_iff_ne]; omega
    have hf : decide (l = m) = false := decide_eq_false fun h => hlen (by rw [h])
    rw [hf]
    clear hlen hf
    go_enter Tryd.func8, Tryd.ntmps8
    go_wp2
    go_ret
    exact ⟨rfl, rfl⟩

end Go.Proofs.YtkcnllbfinjaiaaDoor
