/- Words, walks and plain laws that the claim leans on, part 9. -/
import Derived.Test.YtngpbihnmgjniaaDoorM7
import Derived.Test.YtngpbihnmgjniaaDoorM8

/-! Sums of words: inet's, the document's. -/
namespace Go.Proofs.YtngpbihnmgjniaaDoor
set_option linter.unusedVariables false
set_option linter.unusedSimpArgs false
open Go.RowKit

def add16 (n w : Nat) : Nat := if 65535 < n + w then n + w - 65535 else n + w
theorem add16_le (n w : Nat) (hn : n ≤ 65535) (hw : w ≤ 65535) : add16 n w ≤ 65535 := by unfold add16; split <;> omega
def wordF : List UInt8 → Nat
  | [] => 0
  | [a] => 256 * a.toNat
  | a :: b :: _ => 256 * a.toNat + b.toNat
theorem wordF_le (l : List UInt8) : wordF l ≤ 65535 := by
  match l with
  | [] => simp [wordF]
  | [a] => have := a.toNat_lt; simp only [wordF]; omega
  | a :: b :: _ => have := a.toNat_lt; have := b.toNat_lt; simp only [wordF]; omega
def sumF : List UInt8 → Nat → Nat
  | [], n => n
  | [a], n => add16 n (256 * a.toNat)
  | a :: b :: r, n => sumF r (add16 n (256 * a.toNat + b.toNat))
theorem sumF_step (l : List UInt8) (n : Nat) (h : 0 < l.length) : sumF l n = sumF (l.drop 2) (add16 n (wordF l)) := by
  match l, h with
  | [a], _ => rfl
  | a :: b :: r, _ => rfl
def sum16 (l : List UInt8) : Nat := sumF l 0

set_option maxRecDepth 100000 in
set_option maxHeartbeats 1000000 in
theorem add_any (n v : Nat) (w : World) (hn : n ≤ 65535) (hv : v ≤ 65535) :
    Calls Tryd.prog 34 #[.int .i64 n, .int .i64 v] w fun e w' => e = .returned (.int .i64 (add16 n v)) ∧ w = w' := by
  have a1 := i64_low16 n (by omega)
  have a2 := i64_low16 v (by omega)
  rw [Nat.mod_eq_of_lt (by omega)] at a1 a2
  obtain ⟨s, hs⟩ : ∃ s, n + v = s := ⟨_, rfl⟩
  have hsi : (n : Int) + (v : Int) = (s : Int) := by omega
  have a3 := i64_low16 s (by omega)
  have hsl : (s : Int) ≤ 131070 := by omega
  have hr : ((s % 65536 : Nat) : Int) + (s : Int) / 65536 = (add16 n v : Int) := by
    unfold add16
    rw [hs]
    split <;> omega
  have HR := Lib.hid hr
  clear hs hr
  obtain ⟨q, hq⟩ : ∃ q, s % 65536 = q := ⟨_, rfl⟩
  rw [hq] at a3 HR
  have hql : (q : Int) ≤ 65535 := by omega
  clear hq
  go_enter Tryd.func34, Tryd.ntmps34
  go_wp2
  go_ret
  exact ⟨ret_int HR.out, rfl⟩

set_option maxRecDepth 100000 in
set_option maxHeartbeats 1000000 in
theorem word_any (v : Value) (l : List UInt8) (w : World) (h : BRd w v l) :
    Calls Tryd.prog 35 #[v] w fun e w' => e = .returned (.int .i64 (wordF l)) ∧ w = w' := by
  obtain ⟨va, vc, rfl, hvc, hvm⟩ := h.slice
  simp only [maxLen] at hvm
  match l, h, hvc with
  | [], h, hvc =>
    go_enter Tryd.func35, Tryd.ntmps35
    go_wp2
    go_ret
    exact ⟨rfl, rfl⟩
  | [a], h, hvc =>
    obtain ⟨b, off, c, e, -, -, -, hcell⟩ := BAt.get h (by simp)
    simp only [Value.slice.injEq] at e
    obtain ⟨rfl, -, rfl⟩ := e
    have c0 : w.cell? ⟨b, off, none⟩ = some (.int .u8 (a.toNat : Int)) := hcell 0 (by simp)
    have ha := a.toNat_lt
    have ho := i64_or_nat 0 (a.toNat * 256) (by omega) (by omega)
    rw [or_byte a.toNat 0 (by omega)] at ho
    have hb : (a.toNat : Int) ≤ 255 := by omega
    rw [show ((a.toNat * 256 : Nat) : Int) = (a.toNat : Int) * 256 from by omega] at ho
    obtain ⟨r, hr⟩ : ∃ r, 256 * a.toNat + 0 = r := ⟨_, rfl⟩
    rw [hr] at ho
    have HR := Lib.hid hr
    clear hr hcell h ha
    go_enter Tryd.func35, Tryd.ntmps35
    go_wp2
    go_ret
    exact ⟨ret_int (by have := HR.out; rw [wordF]; refine Eq.trans ho ?_; omega), rfl⟩
  | a :: a2 :: r, h, hvc =>
    obtain ⟨b, off, c, e, -, -, -, hcell⟩ := BAt.get h (by simp)
    simp only [Value.slice.injEq] at e
    obtain ⟨rfl, -, rfl⟩ := e
    have c0 : w.cell? ⟨b, off, none⟩ = some (.int .u8 (a.toNat : Int)) := hcell 0 (by simp)
    have c1 : w.cell? ⟨b, off + 1, none⟩ = some (.int .u8 (a2.toNat : Int)) := hcell 1 (by simp)
    have ha := a.toNat_lt
    have ha2 := a2.toNat_lt
    have ho := i64_or_nat a2.toNat (a.toNat * 256) (by omega) (by omega)
    rw [or_byte a.toNat a2.toNat (by omega)] at ho
    have hb : (a.toNat : Int) ≤ 255 := by omega
    have hb2 : (a2.toNat : Int) ≤ 255 := by omega
    rw [show ((a.toNat * 256 : Nat) : Int) = (a.toNat : Int) * 256 from by omega] at ho
    obtain ⟨s, hs⟩ : ∃ s, 256 * a.toNat + a2.toNat = s := ⟨_, rfl⟩
    rw [hs] at ho
    have HS := Lib.hid hs
    obtain ⟨n, hn⟩ : ∃ n, (a :: a2 :: r).length = n := ⟨_, rfl⟩
    have hn2 : (2 : Int) ≤ (n : Int) := by rw [← hn]; simp; omega
    rw [hn] at hvc ⊢
    clear hs hcell h ha ha2 hn
    go_enter Tryd.func35, Tryd.ntmps35
    go_wp2
    go_ret
    exact ⟨ret_int (by rw [wordF, ← HS.out]), rfl⟩

set_option maxRecDepth 100000 in
set_option maxHeartbeats 1000000 in
theorem sum_any (v : Value) (l : List UInt8) (w : World) (h : BRd w v l) :
    Calls Tryd.prog 23 #[v] w fun e w' => e = .returned (.int .i64 (sum16 l)) ∧ w = w' := by
  obtain ⟨va, vc, rfl, hvc, hvm⟩ := h.slice
  simp only [maxLen] at hvm
  go_enter Tryd.func23, Tryd.ntmps23
  go_wp2
  go_loopw [0, 3] (fun u0 u3 wr => ∃ (m : List UInt8) (n : Nat), n ≤ 65535 ∧ u3 = .int .i64 n ∧ BRd wr u0 m ∧ sumF m n = sum16 l ∧ w = wr) (fun u0 _ _ => match u0 with | .slice _ n _ => n | _ => 0)
  case atStart => exact ⟨l, 0, by omega, rfl, h, rfl, rfl⟩
  case round =>
    obtain ⟨m, n, hn, rfl, hm, hs, rfl⟩ := hrel
    obtain ⟨a, c, rfl, hmc, hmm⟩ := hm.slice
    simp only [maxLen] at hmm
    by_cases h0 : 0 < m.length
    · obtain ⟨g, off, c', e, -, -, -, -⟩ := BAt.get hm h0
      simp only [Value.slice.injEq] at e
      obtain ⟨rfl, -, rfl⟩ := e
      have hst := sumF_step m n h0
      rw [hs] at hst
      obtain ⟨K, hK⟩ : ∃ K, min 2 m.length = K := ⟨_, rfl⟩
      have hKd : m.drop K = m.drop 2 := by
        rw [← hK]
        rcases Nat.le_total 2 m.length with h | h
        · rw [Nat.min_eq_left h]
        · rw [Nat.min_eq_right h, List.drop_eq_nil_of_le (Nat.le_refl _), List.drop_eq_nil_of_le h]
      obtain ⟨o2, ho, hm2, -⟩ := BAt.cut hm K (by omega)
      rw [hKd] at hm2
      have hKi : (if (m.length : Int) < 2 then (m.length : Int) else 2) = (K : Int) := by rw [← hK]; split <;> omega
      have hK1 : (1 : Int) ≤ (K : Int) := by omega
      have hK2 : (K : Int) ≤ (m.length : Int) := by omega
      have hK3 : (K : Int) ≤ (c : Int) := by omega
      have h0' : (0 : Int) < (m.length : Int) := by omega
      have hst' := Lib.hid hst
      clear hst hs hKd hK
      go_wp2_with (first | (go_at_call 35; refine (word_any _ m _ hm).mono ?_; rintro e w' ⟨rfl, rfl⟩) | (go_at_call 34; refine (add_any n (wordF m) _ hn (wordF_le m)).mono ?_; rintro e w' ⟨rfl, rfl⟩))
      go_roundw
      case rel =>
        exact ⟨m.drop 2, add16 n (wordF m), add16_le n _ hn (wordF_le m), rfl, hm2, hst'.out.symm, by trivial⟩
      case measure => simp only; omega
    · have h0' : (m.length : Int) ≤ 0 := by omega
      have hm0 : m = [] := List.eq_nil_of_length_eq_zero (by omega)
      rw [hm0, sumF] at hs
      have HS := Lib.hid hs
      clear hm0 hs h0 hm
      go_wp2
      go_ret
      exact ⟨ret_int (by rw [HS.out]), rfl⟩

theorem check_any (v : Value) (l : List UInt8) (w : World) (h : BRd w v l) :
    Calls Tryd.prog 18 #[v] w fun e w' => e = .returned (.int .i64 (65535 - (sum16 l : Int))) ∧ w = w' := by
  have hs : (sum16 l : Int) ≤ 65535 := by
    have : ∀ (k : Nat) (l : List UInt8) (n : Nat), l.length ≤ k → n ≤ 65535 → sumF l n ≤ 65535 := by
      intro k
      induction k with
      | zero =>
        intro l n hl hn
        have : l = [] := List.eq_nil_of_length_eq_zero (by omega)
        rw [this]
        exact hn
      | succ k ih =>
        intro l n hl hn
        by_cases h0 : 0 < l.length
        · rw [sumF_step l n h0]
          exact ih _ _ (by rw [List.length_drop]; omega) (add16_le _ _ hn (wordF_le l))
        · have : l = [] := List.eq_nil_of_length_eq_zero (by omega)
          rw [this]
          exact hn
    have := this _ l 0 (Nat.le_refl _) (by omega)
    unfold sum16
    omega
  have hs0 : (0 : Int) ≤ (sum16 l : Int) := by omega
  go_enter Tryd.func18, Tryd.ntmps18
  go_wp2_with (go_at_call 23; refine (sum_any _ l _ h).mono ?_; rintro e w' ⟨rfl, rfl⟩)
  go_ret
  exact ⟨rfl, rfl⟩

end Go.Proofs.YtngpbihnmgjniaaDoor

/-! Two bytes as a number. -/
namespace Go.Proofs.YtngpbihnmgjniaaDoor
set_option linter.unusedVariables false
set_option linter.unusedSimpArgs false
open Go.RowKit

def byF (l : List UInt8) (i : Nat) : Nat := (l.getD i 0).toNat
def twoF (l : List UInt8) (i : Nat) : Nat := 256 * byF l i + byF l (i + 1)
theorem byF_lt (l : List UInt8) (i : Nat) : byF l i < 256 := (l.getD i 0).toNat_lt
theorem twoF_le (l : List UInt8) (i : Nat) : twoF l i ≤ 65535 := by
  have := byF_lt l i
  have := byF_lt l (i + 1)
  unfold twoF
  omega
theorem byF_drop (l : List UInt8) (k i : Nat) : byF (l.drop k) i = byF l (k + i) := by simp [byF, List.getElem?_drop]
theorem twoF_drop (l : List UInt8) (k i : Nat) : twoF (l.drop k) i = twoF l (k + i) := by simp only [twoF, byF_drop, Nat.add_assoc]
theorem BRd.cellF {w : World} {b off n c : Nat} {l : List UInt8} (h : BRd w (.slice (some ⟨b, off, none⟩) n c) l) (i : Nat) (hi : i < l.length) : w.cell? ⟨b, off + i, none⟩ = some (.int .u8 (byF l i : Int)) := by
  obtain ⟨b', off', c', e, -, -, -, hcell⟩ := BAt.get h (by omega)
  simp only [Value.slice.injEq, Option.some.injEq, Addr.mk.injEq, and_true] at e
  obtain ⟨⟨rfl, rfl⟩, -, -⟩ := e
  rw [hcell i hi]
  simp [byF, hi]
theorem BRd.at0 {w : World} {v : Value} {l : List UInt8} (h : BRd w v l) (h0 : 0 < l.length) : ∃ b off c, v = .slice (some ⟨b, off, none⟩) l.length c ∧ l.length ≤ c ∧ c ≤ maxLen := by
  obtain ⟨b, off, c, e, h1, h2, -, -⟩ := BAt.get h h0
  exact ⟨b, off, c, e, h1, h2⟩

end Go.Proofs.YtngpbihnmgjniaaDoor
