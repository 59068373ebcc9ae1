/- Words, walks and plain laws that the claim leans on, part 25. -/
import Derived.Test.YtjcbbmlloadagaaDoorM15

/-! Plain laws of layer 3's sums and heads. -/
namespace Go.Proofs.YtjcbbmlloadagaaDoor
set_option linter.unusedVariables false
set_option linter.unusedSimpArgs false

/-- What all words come to. -/
def tot : List UInt8 → Nat
  | [] => 0
  | [a] => 256 * a.toNat
  | a :: b :: r => 256 * a.toNat + b.toNat + tot r
def norm (t : Nat) : Nat := if t = 0 then 0 else (t - 1) % 65535 + 1
theorem norm_add (a w : Nat) (hw : w ≤ 65535) : add16 (norm a) w = norm (a + w) := by
  unfold norm add16
  by_cases h : a = 0
  · subst h
    rw [if_pos rfl]
    by_cases h2 : w = 0
    · subst h2; rfl
    · rw [if_neg (by omega), if_neg (by omega)]; omega
  · have h2 : ¬ (a + w = 0) := by omega
    rw [if_neg h, if_neg h2]
    obtain ⟨r, hr⟩ : ∃ r, (a - 1) % 65535 = r := ⟨_, rfl⟩
    obtain ⟨s, hs⟩ : ∃ s, (a + w - 1) % 65535 = s := ⟨_, rfl⟩
    rw [hr, hs]
    split <;> omega
theorem sum_norm : ∀ (k : Nat) (l : List UInt8) (a : Nat), l.length ≤ k → sumF l (norm a) = norm (a + tot l) := by
  intro k
  induction k with
  | zero =>
    intro l a h
    obtain rfl : l = [] := List.eq_nil_of_length_eq_zero (by omega)
    simp [sumF, tot]
  | succ k ih =>
    intro l a h
    match l, h with
    | [], _ => simp [sumF, tot]
    | [x], _ =>
      have := x.toNat_lt
      simp only [sumF, tot]
      exact norm_add a _ (by omega)
    | x :: y :: r, h =>
      have hx := x.toNat_lt
      have hy := y.toNat_lt
      simp only [sumF, tot]
      rw [norm_add a _ (by omega), ih r _ (by simp only [List.length_cons] at h; omega), Nat.add_assoc]
theorem sum16_norm (l : List UInt8) : sum16 l = norm (tot l) := by
  have := sum_norm l.length l 0 (Nat.le_refl _)
  rw [Nat.zero_add] at this
  exact this
theorem sum16_full (l : List UInt8) : sum16 l = 65535 ↔ tot l ≠ 0 ∧ tot l % 65535 = 0 := by
  rw [sum16_norm]
  unfold norm
  split <;> omega
theorem tot_append2 (a b : UInt8) (l m : List UInt8) : tot (a :: b :: l ++ m) = 256 * a.toNat + b.toNat + tot (l ++ m) := rfl

/-- One byte less, another one instead. -/
theorem tot_set : ∀ (k : Nat) (l : List UInt8) (i : Nat) (c : UInt8), l.length ≤ k → (hi : i < l.length) → tot (l.set i c) + (if i % 2 = 0 then 256 else 1) * l[i].toNat = tot l + (if i % 2 = 0 then 256 else 1) * c.toNat := by
  intro k
  induction k with
  | zero => intro l i c h hi; omega
  | succ k ih =>
    intro l i c h hi
    match l, h, hi with
    | [x], _, hi =>
      obtain rfl : i = 0 := by simpa using hi
      simp [tot]; omega
    | x :: y :: r, h, hi =>
      match i, hi with
      | 0, _ => simp [tot]; omega
      | 1, _ => simp [tot]; omega
      | i + 2, hi =>
        have := ih r i c (by simp only [List.length_cons] at h; omega) (by simpa using hi)
        simp only [List.set_cons_succ, tot, List.getElem_cons_succ, Nat.add_mod_right]
        omega

section
variable (t i tt pr o : Nat) (df mf : Bool) (src dst opt data : List UInt8)
theorem hd10_len : (hd10 t i tt pr o df mf opt data).length = 10 := rfl
theorem tot_hd (r : List UInt8) (x y : UInt8) : tot (hd10 t i tt pr o df mf opt data ++ [x, y] ++ r) = tot (hd10 t i tt pr o df mf opt data) + (256 * x.toNat + y.toNat) + tot r := by
  unfold hd10 fr10
  simp only [List.cons_append, List.nil_append, tot]
  omega
/-- The head, with its check. -/
def headN : List UInt8 := hd10 t i tt pr o df mf opt data ++ b2 (65535 - sum16 (hdN t i tt pr o df mf src dst opt data)) ++ (src ++ dst ++ opt)
theorem bytes_headN : bytesN t i tt pr o df mf src dst opt data = headN t i tt pr o df mf src dst opt data ++ data := by
  unfold bytesN headN
  simp
theorem headN_len (hs : src.length = 4) (hd : dst.length = 4) : (headN t i tt pr o df mf src dst opt data).length = 20 + opt.length := by
  unfold headN
  simp [hd10_len, b2, hs, hd]; omega
theorem headN_sum (h : opt.length ≤ 40) : sum16 (headN t i tt pr o df mf src dst opt data) = 65535 := by
  have e1 : hdN t i tt pr o df mf src dst opt data = hd10 t i tt pr o df mf opt data ++ [0, 0] ++ (src ++ dst ++ opt) := by unfold hdN; simp
  have hz := sum16_norm (hdN t i tt pr o df mf src dst opt data)
  have hT : 1 ≤ tot (hdN t i tt pr o df mf src dst opt data) := by
    rw [e1, tot_hd]
    have : 1 ≤ tot (hd10 t i tt pr o df mf opt data) := by
      unfold hd10 fr10
      simp only [tot]
      have e : (UInt8.ofNat (64 + (5 + opt.length / 4))).toNat = 64 + (5 + opt.length / 4) := by rw [UInt8.toNat_ofNat']; omega
      rw [e]; omega
    omega
  obtain ⟨T, hTe⟩ : ∃ T, tot (hdN t i tt pr o df mf src dst opt data) = T := ⟨_, rfl⟩
  obtain ⟨S, hS⟩ : ∃ S, sum16 (hdN t i tt pr o df mf src dst opt data) = S := ⟨_, rfl⟩
  rw [hTe] at hz hT
  rw [hS] at hz
  have hSr : 1 ≤ S ∧ S ≤ 65535 ∧ (T + (65535 - S)) % 65535 = 0 := by
    unfold norm at hz
    rw [if_neg (by omega)] at hz
    omega
  rw [sum16_full]
  unfold headN
  rw [hS]
  unfold b2
  rw [tot_hd]
  have e2 : tot (hd10 t i tt pr o df mf opt data) + tot (src ++ dst ++ opt) = T := by
    rw [← hTe, e1, tot_hd]
    simp
  have h1 : (UInt8.ofNat ((65535 - S) / 256)).toNat = (65535 - S) / 256 := by rw [UInt8.toNat_ofNat']; omega
  have h2 : (UInt8.ofNat ((65535 - S) % 256)).toNat = (65535 - S) % 256 := by rw [UInt8.toNat_ofNat']; omega
  rw [h1, h2]
  have e3 : tot (hd10 t i tt pr o df mf opt data) + (256 * ((65535 - S) / 256) + (65535 - S) % 256) + tot (src ++ dst ++ opt) = T + (65535 - S) := by omega
  rw [e3]
  omega
end
/-- Another byte in a head whose sum is full. -/
theorem sum_other (l : List UInt8) (i : Nat) (c : UInt8) (hi : i < l.length) (hc : l[i] ≠ c) (h : sum16 l = 65535) : sum16 (l.set i c) ≠ 65535 := by
  intro h2
  rw [sum16_full] at h h2
  have h3 := tot_set l.length l i c (Nat.le_refl _) hi
  have a1 := l[i].toNat_lt
  have a2 := c.toNat_lt
  have a3 : l[i].toNat ≠ c.toNat := fun e => hc (UInt8.toNat_inj.1 e)
  obtain ⟨X, hX⟩ : ∃ X, l[i].toNat = X := ⟨_, rfl⟩
  obtain ⟨Y, hY⟩ : ∃ Y, c.toNat = Y := ⟨_, rfl⟩
  rw [hX] at h3 a1 a3
  rw [hY] at h3 a2 a3
  obtain ⟨q1, hq1⟩ : ∃ q, tot l = 65535 * q := ⟨tot l / 65535, by omega⟩
  obtain ⟨q2, hq2⟩ : ∃ q, tot (l.set i c) = 65535 * q := ⟨tot (l.set i c) / 65535, by omega⟩
  rw [hq1, hq2] at h3
  split at h3 <;> omega
end Go.Proofs.YtjcbbmlloadagaaDoor
