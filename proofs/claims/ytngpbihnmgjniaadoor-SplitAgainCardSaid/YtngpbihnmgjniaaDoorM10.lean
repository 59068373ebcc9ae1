/- Words, walks and plain laws that the claim leans on, part 10. -/
import Derived.Test.YtngpbihnmgjniaaDoorM2
import Derived.Test.YtngpbihnmgjniaaDoorM7
import Derived.Test.YtngpbihnmgjniaaDoorM8
import Derived.Test.YtngpbihnmgjniaaDoorM9

/-! ip4.within: numbers, each with the greatest one. -/
namespace Go.Proofs.YtngpbihnmgjniaaDoor
set_option linter.unusedVariables false
set_option linter.unusedSimpArgs false
open Go.RowKit

def inAll : List Int → Bool
  | a :: b :: r => decide (0 ≤ a) && decide (a ≤ b) && inAll r
  | _ => true

set_option maxRecDepth 100000 in
set_option maxHeartbeats 2000000 in
theorem within_any (v : Value) (l : List Int) (n : Nat) (w : World) (h : ZRd w v l) (hl : l.length = 2 * n) (hn : n ≤ 1000) :
    Calls Tryd.prog 21 #[v] w fun e w' => e = .returned (.bool (inAll l)) ∧ Keeps (fun _ => False) w w' := by
  obtain ⟨va, vc, rfl, hvc, hvm⟩ := ZAt.slice h
  simp only [maxLen] at hvm
  have HL := Lib.hid hl
  have hlb : (l.length : Int) ≤ 2000 := by omega
  clear hl hn
  go_enter Tryd.func21, Tryd.ntmps21
  go_wp2
  go_loopw [3] (fun u3 wr => ∃ i : Nat, i ≤ l.length ∧ i % 2 = 0 ∧ u3 = .int .i64 i ∧ inAll (l.drop i) = inAll l ∧ Keeps (fun _ => False) w wr) (fun u3 _ => l.length - (intOf u3).toNat)
  case atStart => exact ⟨0, by omega, rfl, rfl, rfl, Keeps.refl _ _⟩
  case round =>
    obtain ⟨i, hi, he, rfl, hin, hkw⟩ := hrel
    by_cases hlt : i < l.length
    · have hlt1 : i + 1 < l.length := by have := HL.out; omega
      obtain ⟨b, off, c, e, -, -, -, hcell⟩ := ZAt.get h (by omega)
      simp only [Value.slice.injEq] at e
      obtain ⟨rfl, -, rfl⟩ := e
      have c0 := hkw.cell (hcell i hlt) (fun h => h)
      have c1 := hkw.cell (hcell (i + 1) hlt1) (fun h => h)
      have hd : l.drop i = l[i] :: l[i + 1] :: l.drop (i + 1 + 1) := by rw [List.drop_eq_getElem_cons hlt, List.drop_eq_getElem_cons hlt1]
      obtain ⟨x, hx⟩ : ∃ x, l[i] = x := ⟨_, rfl⟩
      obtain ⟨y, hy⟩ : ∃ y, l[i + 1] = y := ⟨_, rfl⟩
      rw [hx] at c0 hd
      rw [hy] at c1 hd
      rw [hd, inAll] at hin
      obtain ⟨i1, hi1⟩ : ∃ i1, i + 1 = i1 := ⟨_, rfl⟩
      rw [hi1] at c1
      have e1 : (i : Int) + 1 = (i1 : Int) := by omega
      have g0 : (i : Int) < (l.length : Int) := by omega
      have g1 : (i1 : Int) < (l.length : Int) := by omega
      have q1 := i64_fit (i1 : Int) (by omega) (by omega)
      have HE := Lib.hid he
      have HI := Lib.hid hi1
      clear hd hx hy hcell he hi1
      by_cases h0 : x < 0
      · have hf : inAll l = false := by rw [← hin, decide_eq_false (by omega)]; rfl
        have HF := Lib.hid hf
        clear hin hf
        go_wp2
        go_quiet (fail)
        go_wp2
        go_ret
        exact ⟨by rw [HF.out]; rfl, hkw.drewN _⟩
      · have h0' : 0 ≤ x := by omega
        by_cases h1 : y < x
        · have hf : inAll l = false := by rw [← hin, decide_eq_false (show ¬ x ≤ y by omega)]; simp
          have HF := Lib.hid hf
          clear hin hf
          go_wp2
          go_quiet (fail)
          go_wp2
          go_ret
          exact ⟨by rw [HF.out]; rfl, hkw.drewN _⟩
        · have h1' : x ≤ y := by omega
          have hf : inAll (l.drop (i + 1 + 1)) = inAll l := by rw [← hin, decide_eq_true h0', decide_eq_true h1']; rfl
          have HF := Lib.hid hf
          clear hin hf
          go_wp2
          go_quiet (fail)
          go_wp2
          go_roundw
          case rel => exact ⟨i + 2, by omega, by have := HE.out; omega, by go_num, HF.out, hkw.drewN _⟩
          case measure => simp [intOf]; omega
    · have hlt' : (l.length : Int) ≤ (i : Int) := by omega
      rw [List.drop_eq_nil_of_le (by omega)] at hin
      have HF := Lib.hid hin
      clear hin
      go_wp2
      go_ret
      exact ⟨by rw [← HF.out]; rfl, hkw⟩
end Go.Proofs.YtngpbihnmgjniaaDoor

/-! ip4.shape: what is wrong with bytes. -/
namespace Go.Proofs.YtngpbihnmgjniaaDoor
set_option linter.unusedVariables false
set_option linter.unusedSimpArgs false
open Go.RowKit

def headF (l : List UInt8) : Nat := 4 * (byF l 0 % 16)
def parseE (l : List UInt8) : Int :=
  if l.length < 20 then 8 else if byF l 0 / 16 ≠ 4 ∨ headF l < 20 then 4 else if l.length < headF l ∨ l.length < twoF l 2 then 8
  else if twoF l 2 < headF l ∨ twoF l 2 < l.length ∨ 128 ≤ byF l 6 then 4 else if sum16 (l.take (headF l)) ≠ 65535 then 5 else 0

/-- A call's end with a fault. -/
def Fault (k : Int) (x : Value) (w : World) (e : Ending) (w' : World) : Prop :=
  ∃ fb, e = .returned (.tuple #[x, .iface 56 (.pointer (some ⟨fb, 0, none⟩))]) ∧ w'.cell? ⟨fb, 1, none⟩ = some (.iface 27 (.int .i64 k)) ∧ Keeps (fun _ => False) w w'

theorem BRd.take {w : World} {g off n c : Nat} {l : List UInt8} (h : BRd w (.slice (some ⟨g, off, none⟩) n c) l) (k : Nat) (hk : k ≤ l.length) (hn : n = l.length) : BRd w (.slice (some ⟨g, off, none⟩) k c) (l.take k) := by
  subst hn
  exact BAt.take h k hk


end Go.Proofs.YtngpbihnmgjniaaDoor
