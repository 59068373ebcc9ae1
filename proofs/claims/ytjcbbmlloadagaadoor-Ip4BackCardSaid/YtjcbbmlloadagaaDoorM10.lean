/- Words, walks and plain laws that the claim leans on, part 10. -/
import Derived.Test.YtjcbbmlloadagaaDoorM2
import Derived.Test.YtjcbbmlloadagaaDoorM7
import Derived.Test.YtjcbbmlloadagaaDoorM8
import Derived.Test.YtjcbbmlloadagaaDoorM9

/-! ip4.within: numbers, each with the greatest one. -/
namespace Go.Proofs.YtjcbbmlloadagaaDoor
set_option linter.unusedVariables false
set_option linter.unusedSimpArgs false
open Go.RowKit

def inAll : List Int → Bool
  | a :: b :: r => decide (0 ≤ a) && decide (a ≤ b) && inAll r
  | _ => true

set_option maxRecDepth 100000 in
set_option maxHeartbeats 2000000 in
theorem within_any (v : Value) (l : List Int) (n : Nat) (w : World) (h : ZRd w v l) (hl : l.length = 2 * n) (hn : n ≤ 1000) :
    Calls Tryd.prog 39 #[v] w fun e w' => e = .returned (.bool (inAll l)) ∧ Keeps (fun _ => False) w w' := by
  obtain ⟨va, vc, rfl, hvc, hvm⟩ := ZAt.slice h
  simp only [maxLen] at hvm
  have HL := Lib.hid hl
  have hlb : (l.length : Int) ≤ 2000 := by omega
  clear hl hn
  go_enter Tryd.func39, Tryd.ntmps39
  go_wp2
  go_loopw [3] (fun u3 wr => ∃ i : Nat, i ≤ l.length ∧ i % 2 = 0 ∧ u3 = .int .i64 i ∧ inAll (l.drop i) = inAll l ∧ Keeps (fun _ => False) w wr) (fun u3 _ => l.length - (intOf u3).toNat)
  case atStart => exact ⟨0, by omega, rfl, rfl, rfl, Keeps.refl _ _⟩
  case round =>
    obtain ⟨i, hi, he, rfl, hin, hkw⟩ := hrel
    by_cases hlt : i < l.length
    · have hlt1 : i + 1 < l.length := by have := HL.out; omega
      obtain ⟨b, off, c, e, -, -, -, hcell⟩ := ZAt.get h (by omega)
      simp only [Value.slice.injEq] at e
      obtain ⟨rfl, -, rfl⟩ := e
      have c0 := hkw.cell (hcell i hlt) (fun h => h)
      have c1 := hkw.cell (hcell (i + 1) hlt1) (fun h => h)
      have hd : l.drop i = l[i] :: l[i + 1] :: l.drop (i + 1 + 1) := by rw [List.drop_eq_getElem_cons hlt, List.drop_eq_getElem_cons hlt1]
      obtain ⟨x, hx⟩ : ∃ x, l[i] = x := ⟨_, rfl⟩
      obtain ⟨y, hy⟩ : ∃ y, l[i + 1] = y := ⟨_, rfl⟩
      rw [hx] at c0 hd
      rw [hy] at c1 hd
      rw [hd, inAll] at hin
      obtain ⟨i1, hi1⟩ : ∃ i1, i + 1 = i1 := ⟨_, rfl⟩
      rw [hi1] at c1
      have e1 : (i : Int) + 1 = (i1 : Int) := by omega
      have g0 : (i : Int) < (l.length : Int) := by omega
      have g1 : (i1 : Int) < (l.length : Int) := by omega
      have q1 := i64_fit (i1 : Int) (by omega) (by omega)
      have HE := Lib.hid he
      have HI := Lib.hid hi1
      clear hd hx hy hcell he hi1
      by_cases h0 : x < 0
      · have hf : inAll l = false := by rw [← hin, decide_eq_false (by omega)]; rfl
        have HF := Lib.hid hf
        clear hin hf
        go_wp2
        go_quiet (fail)
        go_wp2
        go_ret
        exact ⟨by rw [HF.out]; rfl, hkw.drewN _⟩
      · have h0' : 0 ≤ x := by omega
        by_cases h1 : y < x
        · have hf : inAll l = false := by rw [← hin, decide_eq_false (show ¬ x ≤ y by omega)]; simp
          have HF := Lib.hid hf
          clear hin hf
          go_wp2
          go_quiet (fail)
          go_wp2
          go_ret
          exact ⟨by rw [HF.out]; rfl, hkw.drewN _⟩
        · have h1' : x ≤ y := by omega
          have hf : inAll (l.drop (i + 1 + 1)) = inAll l := by rw [← hin, decide_eq_true h0', decide_eq_true h1']; rfl
          have HF := Lib.hid hf
          clear hin hf
          go_wp2
          go_quiet (fail)
          go_wp2
          go_roundw
          case rel => exact ⟨i + 2, by omega, by have := HE.out; omega, by go_num, HF.out, hkw.drewN _⟩
          case measure => simp [intOf]; omega
    · have hlt' : (l.length : Int) ≤ (i : Int) := by omega
      rw [List.drop_eq_nil_of_le (by omega)] at hin
      have HF := Lib.hid hin
      clear hin
      go_wp2
      go_ret
      exact ⟨by rw [← HF.out]; rfl, hkw⟩
end Go.Proofs.YtjcbbmlloadagaaDoor

/-! ip4.shape: what is wrong with bytes. -/
namespace Go.Proofs.YtjcbbmlloadagaaDoor
set_option linter.unusedVariables false
set_option linter.unusedSimpArgs false
open Go.RowKit

def headF (l : List UInt8) : Nat := 4 * (byF l 0 % 16)
def parseE (l : List UInt8) : Int :=
  if l.length < 20 then 8 else if byF l 0 / 16 ≠ 4 ∨ headF l < 20 then 4 else if l.length < headF l ∨ l.length < twoF l 2 then 8
  else if twoF l 2 < headF l ∨ twoF l 2 < l.length ∨ 128 ≤ byF l 6 then 4 else if sum16 (l.take (headF l)) ≠ 65535 then 5 else 0

/-- A call's end with a fault. -/
def Fault (k : Int) (x : Value) (w : World) (e : Ending) (w' : World) : Prop :=
  ∃ fb, e = .returned (.tuple #[x, .iface 62 (.pointer (some ⟨fb, 0, none⟩))]) ∧ w'.cell? ⟨fb, 1, none⟩ = some (.iface 26 (.int .i64 k)) ∧ Keeps (fun _ => False) w w'

theorem BRd.take {w : World} {g off n c : Nat} {l : List UInt8} (h : BRd w (.slice (some ⟨g, off, none⟩) n c) l) (k : Nat) (hk : k ≤ l.length) (hn : n = l.length) : BRd w (.slice (some ⟨g, off, none⟩) k c) (l.take k) := by
  subst hn
  exact BAt.take h k hk


set_option maxRecDepth 100000 in
set_option maxHeartbeats 4000000 in
theorem shape_any (v : Value) (l : List UInt8) (w : World) (h : BRd w v l) :
    Calls Tryd.prog 22 #[v] w fun e w' => (parseE l = 0 ∧ e = .returned (.tuple #[.int .i64 (headF l), .nilIface]) ∧ Keeps (fun _ => False) w w') ∨ (parseE l ≠ 0 ∧ Fault (parseE l) (.int .i64 0) w e w') := by
  obtain ⟨va, vc, rfl, hvc, hvm⟩ := h.slice
  simp only [maxLen] at hvm
  by_cases h20 : l.length < 20
  · have hE : parseE l = 8 := by unfold parseE; rw [if_pos h20]
    rw [hE]
    have h20' : (l.length : Int) < 20 := by omega
    have hkq := Keeps.refl (fun _ => False) w
    go_enter Tryd.func22, Tryd.ntmps22
    go_wp2
    go_ret2
    first | exact .inr ⟨by decide, _, rfl, ((RowAt.new _ _ _).cell 1), hkq.alloc _⟩ | exact ⟨_, rfl, ((RowAt.new _ _ _).cell 1), hkq.alloc _⟩
  · obtain ⟨b, off, c, e, hc, hm⟩ := h.at0 (by omega)
    simp only [Value.slice.injEq] at e
    obtain ⟨rfl, -, rfl⟩ := e
    have c0 : w.cell? ⟨b, off, none⟩ = some (.int .u8 (byF l 0 : Int)) := h.cellF 0 (by omega)
    have c6 := h.cellF 6 (by omega)
    have h2 : BRd w (.slice (some ⟨b, off + 2, none⟩) (l.length - 2) (vc - 2)) (l.drop 2) := by
      obtain ⟨o2, e, hh, -⟩ := BAt.cut h 2 (by omega)
      rw [if_neg (by omega)] at e
      simp only [Option.some.injEq, Addr.mk.injEq, and_true, true_and] at e
      rw [e]
      exact hh
    have hget := fun w' (h' : BRd w' (.slice (some ⟨b, off + 2, none⟩) (l.length - 2) (vc - 2)) (l.drop 2)) => get_any _ (l.drop 2) w' h' (by rw [List.length_drop]; omega)
    rw [twoF_drop] at hget
    have b0 := byF_lt l 0
    have b6 := byF_lt l 6
    have t2 := twoF_le l 2
    have hand := u8_and_nat (byF l 0) 15 (by omega) (by omega)
    rw [show byF l 0 &&& 15 = byF l 0 % 16 from Nat.and_two_pow_sub_one_eq_mod (byF l 0) 4] at hand
    have hhd : headF l = 4 * (byF l 0 % 16) := rfl
    have hEq : parseE l = (if byF l 0 / 16 ≠ 4 ∨ headF l < 20 then 4 else if l.length < headF l ∨ l.length < twoF l 2 then 8
      else if twoF l 2 < headF l ∨ twoF l 2 < l.length ∨ 128 ≤ byF l 6 then 4 else if sum16 (l.take (headF l)) ≠ 65535 then 5 else 0) := by
      unfold parseE
      rw [if_neg h20]
    have hsub := fun (w' : World) (h' : BRd w' (.slice (some ⟨b, off, none⟩) l.length vc) l) (hh : headF l ≤ l.length) => sum_any _ (l.take (headF l)) w' (BRd.take h' (headF l) hh rfl)
    generalize sum16 (l.take (headF l)) = S at *
    generalize headF l = H at *
    generalize twoF l 2 = T at *
    generalize byF l 0 = B0 at *
    generalize byF l 6 = B6 at *
    generalize parseE l = E at *
    obtain ⟨R, hR⟩ : ∃ R, B0 % 16 = R := ⟨_, rfl⟩
    rw [hR] at hand hhd
    have hmul : (R : Int) * 4 = (H : Int) := by omega
    have hRl : (R : Int) ≤ 15 := by omega
    have hHl : (H : Int) ≤ 60 := by omega
    have h20' : (20 : Int) ≤ (l.length : Int) := by omega
    have hc2 : ¬ vc = 2 := by omega
    have hc3 : (2 : Int) ≤ (vc : Int) := by omega
    have hL6 : (6 : Int) < (l.length : Int) := by omega
    have hL0 : (0 : Int) < (l.length : Int) := by omega
    have hL2 : (2 : Int) ≤ (l.length : Int) := by omega
    have bB0 : (B0 : Int) ≤ 255 := by omega
    have bB6 : (B6 : Int) ≤ 255 := by omega
    have bT : (T : Int) ≤ 65535 := by omega
    have HH := Lib.hid hhd
    have HR := Lib.hid hR
    have HE := Lib.hid hEq
    rw [show ((15 : Nat) : Int) = 15 from rfl] at hand
    clear hhd hR hEq b0 b6 t2 h20
    go_enter Tryd.func22, Tryd.ntmps22
    go_wp2
    go_quiet (exact Calls.quiet_of (hget _ (h2.keeps ((Keeps.refl _ _).drewN _))))
    generalize hw2 : World.drewN w _ = w2
    have hkq : Keeps (fun _ => False) w w2 := hw2 ▸ (Keeps.refl _ w).drewN _
    replace c0 := hkq.cell c0 (fun h => h)
    replace c6 := hkq.cell c6 (fun h => h)
    have hs := hsub w2 (h.keeps hkq)
    clear hget hw2 hand hmul
    by_cases hv : (B0 : Int) / 16 = 4
    case neg =>
      obtain rfl : E = 4 := by rw [HE.out, if_pos (by omega)]
      clear HE
      go_wp2
      go_ret2
      first | exact .inr ⟨by decide, _, rfl, ((RowAt.new _ _ _).cell 1), hkq.alloc _⟩ | exact ⟨_, rfl, ((RowAt.new _ _ _).cell 1), hkq.alloc _⟩
    by_cases h1 : (H : Int) < 20
    case pos =>
      obtain rfl : E = 4 := by rw [HE.out, if_pos (by omega)]
      clear HE
      go_wp2
      go_ret2
      first | exact .inr ⟨by decide, _, rfl, ((RowAt.new _ _ _).cell 1), hkq.alloc _⟩ | exact ⟨_, rfl, ((RowAt.new _ _ _).cell 1), hkq.alloc _⟩
    have e1 : ¬ (B0 / 16 ≠ 4 ∨ H < 20) := by omega
    have h1' : (20 : Int) ≤ (H : Int) := by omega
    by_cases h3 : (l.length : Int) < (H : Int)
    case pos =>
      obtain rfl : E = 8 := by rw [HE.out, if_neg e1, if_pos (by omega)]
      clear HE e1
      go_wp2
      go_ret2
      first | exact .inr ⟨by decide, _, rfl, ((RowAt.new _ _ _).cell 1), hkq.alloc _⟩ | exact ⟨_, rfl, ((RowAt.new _ _ _).cell 1), hkq.alloc _⟩
    have h3' : (H : Int) ≤ (l.length : Int) := by omega
    by_cases h4 : (l.length : Int) < (T : Int)
    case pos =>
      obtain rfl : E = 8 := by rw [HE.out, if_neg e1, if_pos (by omega)]
      clear HE e1
      go_wp2
      go_ret2
      first | exact .inr ⟨by decide, _, rfl, ((RowAt.new _ _ _).cell 1), hkq.alloc _⟩ | exact ⟨_, rfl, ((RowAt.new _ _ _).cell 1), hkq.alloc _⟩
    have h4' : (T : Int) ≤ (l.length : Int) := by omega
    have e2 : ¬ (l.length < H ∨ l.length < T) := by omega
    by_cases h5 : (T : Int) < (H : Int)
    case pos =>
      obtain rfl : E = 4 := by rw [HE.out, if_neg e1, if_neg e2, if_pos (by omega)]
      clear HE e1 e2
      go_wp2
      go_ret2
      first | exact .inr ⟨by decide, _, rfl, ((RowAt.new _ _ _).cell 1), hkq.alloc _⟩ | exact ⟨_, rfl, ((RowAt.new _ _ _).cell 1), hkq.alloc _⟩
    have h5' : (H : Int) ≤ (T : Int) := by omega
    by_cases h6 : (T : Int) < (l.length : Int)
    case pos =>
      obtain rfl : E = 4 := by rw [HE.out, if_neg e1, if_neg e2, if_pos (by omega)]
      clear HE e1 e2
      go_wp2
      go_ret2
      first | exact .inr ⟨by decide, _, rfl, ((RowAt.new _ _ _).cell 1), hkq.alloc _⟩ | exact ⟨_, rfl, ((RowAt.new _ _ _).cell 1), hkq.alloc _⟩
    have h6' : (l.length : Int) ≤ (T : Int) := by omega
    by_cases h7 : (B6 : Int) / 128 = 1
    case pos =>
      obtain rfl : E = 4 := by rw [HE.out, if_neg e1, if_neg e2, if_pos (by omega)]
      clear HE e1 e2
      go_wp2
      go_ret2
      first | exact .inr ⟨by decide, _, rfl, ((RowAt.new _ _ _).cell 1), hkq.alloc _⟩ | exact ⟨_, rfl, ((RowAt.new _ _ _).cell 1), hkq.alloc _⟩
    have e3 : ¬ (T < H ∨ T < l.length ∨ 128 ≤ B6) := by omega
    have hHc : (H : Int) ≤ (vc : Int) := by omega
    by_cases h8 : (S : Int) = 65535
    · obtain rfl : E = 0 := by rw [HE.out, if_neg e1, if_neg e2, if_neg e3, if_neg (by omega)]
      clear HE e1 e2 e3
      go_wp2_with (go_at_call 21; refine (hs (by omega)).mono ?_; rintro e w' ⟨rfl, rfl⟩)
      go_ret2
      first | exact .inl ⟨rfl, rfl, hkq⟩ | exact ⟨rfl, hkq⟩
    · obtain rfl : E = 5 := by rw [HE.out, if_neg e1, if_neg e2, if_neg e3, if_pos (by omega)]
      clear HE e1 e2 e3
      go_wp2_with (go_at_call 21; refine (hs (by omega)).mono ?_; rintro e w' ⟨rfl, rfl⟩)
      go_ret2
      first | exact .inr ⟨by decide, _, rfl, ((RowAt.new _ _ _).cell 1), hkq.alloc _⟩ | exact ⟨_, rfl, ((RowAt.new _ _ _).cell 1), hkq.alloc _⟩
end Go.Proofs.YtjcbbmlloadagaaDoor
