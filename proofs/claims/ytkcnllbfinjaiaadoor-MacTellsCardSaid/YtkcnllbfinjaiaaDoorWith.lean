/- mac.Full's inner function: a key unlike a byte. -/
import Derived.Test.YtkcnllbfinjaiaaDoorClone
import Derived.Test.YtkcnllbfinjaiaaDoorSame
namespace Go.Proofs.YtkcnllbfinjaiaaDoor
open Go.RowKit

def withL (k : List UInt8) (x : UInt8) : List UInt8 := k.map (· ^^^ x)
def part (k : List UInt8) (x : UInt8) (j : Nat) : List UInt8 := (k.take j).map (· ^^^ x) ++ k.drop j
theorem part_len (k : List UInt8) (x : UInt8) (j : Nat) : (part k x j).length = k.length := by simp [part]; omega
theorem part_get (k : List UInt8) (x : UInt8) (j : Nat) (h : j < k.length) : (part k x j)[j]'(by rw [part_len]; exact h) = k[j] := by
  unfold part
  rw [List.getElem_append_right (by simp; omega)]
  simp [Nat.min_eq_left (Nat.le_of_lt h)]
theorem part_set (k : List UInt8) (x : UInt8) (j : Nat) (h : j < k.length) : (part k x j).set j (k[j] ^^^ x) = part k x (j + 1) := by
  unfold part
  rw [List.take_succ_eq_append_getElem h, List.map_append, List.set_append_right _ _ (by simp; omega)]
  simp [Nat.min_eq_left (Nat.le_of_lt h)]
  rw [List.drop_eq_getElem_cons h]
  rfl

set_option maxRecDepth 100000 in
set_option maxHeartbeats 1000000 in
theorem with_any (x : UInt8) (K : Nat) (kv : Value) (k : List UInt8) (w : World) (p : Nat → Prop) (hK : RowAt w K #[kv] 22) (h : BAt w p kv k) (hl : k.length ≤ 1000) :
    Calls Tryd.prog 16 #[.int .u8 (x.toNat : Int), .pointer (some ⟨K, 0, none⟩)] w (Gives (withL k x) w) := by
  obtain ⟨a, c, rfl, hc, hm⟩ := h.slice
  have c0 := hK.one
  have hE := fun (a : Option Addr) (n : Nat) (w : World) => Lib.run_eql_slice_nil (P := Tryd.prog) w 22 _ a n c 0 0 Tryd.underlying22
  clear hE
  go_enter Tryd.func16, Tryd.ntmps16
  go_wp2_with (go_at_call 15; refine (clone_any _ k _ _ h (by omega)).mono ?_; rintro e w1 ⟨v1, rfl, ho1, hk1⟩; obtain ⟨a1, c1, rfl, hc1, hm1⟩ := ho1.slice)
  go_loopw [10] (fun u10 wr => ∃ j : Nat, j ≤ k.length ∧ u10 = .int .i64 j ∧ BOwn wr w.heap.size (.slice a1 k.length c1) (part k x j) ∧ Keeps (fun _ => False) w wr) (fun u10 _ => k.length - (intOf u10).toNat)
  case atStart => exact ⟨0, by omega, rfl, by simpa [part] using ho1, hk1⟩
  case round =>
    obtain ⟨j, hj, rfl, ho, hkw⟩ := hrel
    by_cases hlt : j < k.length
    · obtain ⟨g, off, c2, e2, -, -, hg⟩ := ho.place (by rw [part_len]; omega)
      simp only [Value.slice.injEq] at e2
      obtain ⟨rfl, -, rfl⟩ := e2
      obtain ⟨t1, t2, t3⟩ := ho.at j (by rw [part_len]; omega)
      rw [part_get k x j hlt] at t1
      have t4 := t3 (k[j] ^^^ x)
      rw [part_set k x j hlt] at t4
      have hx : bits .xor .u8 (k[j].toNat : Int) (x.toNat : Int) = ((k[j] ^^^ x).toNat : Int) := by
        rw [u8_xor_nat _ _ (u8_lt _) (u8_lt _), UInt8.toNat_xor]
      have HX := Lib.hid hx
      have T4 := Lib.hid t4
      clear t3 t4 hx
      go_wp2
      go_roundw
      case rel => exact ⟨j + 1, by omega, by go_num, by rw [HX.out]; exact T4.out, hkw.setCell _ _ (.inr (by simpa using hg))⟩
      case measure => simp [intOf]; omega
    · obtain rfl : j = k.length := by omega
      go_wp2
      go_ret
      exact ⟨_, rfl, by simpa [part, withL, part_len] using ho, hkw⟩

end Go.Proofs.YtkcnllbfinjaiaaDoor
