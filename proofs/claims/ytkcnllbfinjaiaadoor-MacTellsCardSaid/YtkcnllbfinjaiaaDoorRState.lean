/- redoubtref10.State: numbers of 32 bits. -/
import Derived.Test.YtkcnllbfinjaiaaDoorInts
import Derived.Test.YtkcnllbfinjaiaaDoorNum
namespace Go.Proofs.YtkcnllbfinjaiaaDoor
open Go.RowKit

/-- Numbers as ints. -/
def zs (l : List UInt32) : List Int := l.map fun x => (x.toNat : Int)
theorem zs_length (l : List UInt32) : (zs l).length = l.length := by simp [zs]
theorem zs_get (l : List UInt32) (i : Nat) (h : i < (zs l).length) : (zs l)[i] = ((l.getD i 0).toNat : Int) := by
  have h' : i < l.length := by simpa [zs] using h
  simp [zs, h']

set_option maxRecDepth 100000 in
set_option maxHeartbeats 1000000 in
theorem state_any (v : Value) (l : List UInt32) (w : World) (h : ZRd w v (zs l)) (h8 : l.length = 8) :
    Calls Tryd.prog 33 #[v] w fun e w' => e = .returned (.bool true) ∧ w = w' := by
  obtain ⟨b, off, c, rfl, hc, hm, hb, hcell⟩ := ZAt.get h (by rw [zs_length]; omega)
  rw [zs_length, h8] at hc ⊢
  have hcell' : ∀ i, i < 8 → w.cell? ⟨b, off + i, none⟩ = some (.int .i64 ((l.getD i 0).toNat : Int)) := fun i hi => by
    rw [hcell i (by rw [zs_length]; omega), zs_get]
  have H8 := Lib.hid h8
  clear h8 hcell h
  go_enter Tryd.func33, Tryd.ntmps33
  go_wp2
  go_loopw [3] (fun u3 wr => ∃ k : Nat, k ≤ 8 ∧ u3 = .int .i64 k ∧ w = wr) (fun u3 _ => 8 - (intOf u3).toNat)
  case atStart => exact ⟨0, by omega, rfl, rfl⟩
  case round =>
    obtain ⟨k, hk, rfl, rfl⟩ := hrel
    by_cases hlt : k < 8
    · have hx := hcell' k hlt
      have hl := u32_lt (l.getD k 0)
      obtain ⟨X, hX⟩ : ∃ X, (l.getD k 0).toNat = X := ⟨_, rfl⟩
      rw [hX] at hx hl
      have h0 : (0 : Int) ≤ (X : Int) := by omega
      have h1 : (X : Int) ≤ 4294967295 := by omega
      clear hcell' hX hl
      go_wp2
      go_roundw
      case rel => exact ⟨k + 1, by omega, by go_num, by trivial⟩
      case measure => simp [intOf]; omega
    · have hk8 : (8 : Int) ≤ (k : Int) := by omega
      go_wp2
      go_ret
      exact ⟨rfl, rfl⟩
end Go.Proofs.YtkcnllbfinjaiaaDoor
