/- Words, walks and plain laws that the claim leans on, part 40. -/
import Derived.Test.YtekaoknpjpbjgaaDoorM19
import Derived.Test.YtekaoknpjpbjgaaDoorM23
import Derived.Test.YtekaoknpjpbjgaaDoorM25
import Derived.Test.YtekaoknpjpbjgaaDoorM29
import Derived.Test.YtekaoknpjpbjgaaDoorM34
import Derived.Test.YtekaoknpjpbjgaaDoorM38

/-! The reference of layer 14: May, number, halves, Length, four, Peek, tag. -/
namespace Go.Proofs.YtekaoknpjpbjgaaDoor
set_option linter.unusedVariables false
set_option linter.unusedSimpArgs false
open Go.RowKit

set_option maxRecDepth 100000 in
set_option maxHeartbeats 1000000 in
theorem rmay14_any (sa : SaV) (w : World) (hsz : SizedSa sa) : Calls Tryd.prog 15 #[.agg (saC sa)] w fun e w' => e = .returned (.bool (mayS sa)) ∧ Keeps (fun _ => False) w w' := by
  obtain ⟨spi, key, salt, mac, esn, window⟩ := sa
  unfold saC
  simp only
  go_enter Tryd.func15, Tryd.ntmps15
  go_wp2
  all_goals
    go_ret
    refine ⟨ret_bool ?_, (Keeps.refl _ _).alloc _⟩
    refine Bool.eq_iff_iff.2 ?_
    rw [mayS_iff]
    simp only [decide_eq_true_eq, beq_iff_eq, Bool.false_eq_true, false_iff, true_iff]
    omega
def numS (sa : SaV) (seq : Nat) : Bool := decide (1 ≤ seq) && (sa.esn || decide (seq ≤ 4294967295))
theorem okN_num (sa : SaV) (seq : Nat) : okN sa seq = (mayS sa && numS sa seq) := by unfold okN numS; rw [Bool.and_assoc]
set_option maxRecDepth 100000 in
set_option maxHeartbeats 1000000 in
theorem rnumber_any (sa : SaV) (seq : Nat) (w : World) : Calls Tryd.prog 29 #[.agg (saC sa), .int .u64 seq] w fun e w' => e = .returned (.bool (numS sa seq)) ∧ Keeps (fun _ => False) w w' := by
  have hka := (Keeps.refl (fun _ => False) w).alloc (.cells (saC sa) 23)
  have HK := Lib.hid hka
  obtain ⟨spi, key, salt, mac, esn, window⟩ := sa
  unfold saC at HK ⊢
  unfold numS
  simp only at HK ⊢
  obtain ⟨z, hz⟩ : ∃ z : Int, (seq : Int) = z := ⟨_, rfl⟩
  have e1 : decide (1 ≤ seq) = decide (1 ≤ z) := by rw [decide_eq_decide]; omega
  have e2 : decide (seq ≤ 4294967295) = decide (z ≤ 4294967295) := by rw [decide_eq_decide]; omega
  rw [e1, e2, hz]
  clear hka hz e1 e2
  by_cases h1 : 1 ≤ z
  · rw [decide_eq_true h1]
    cases esn with
    | true =>
      go_enter Tryd.func29, Tryd.ntmps29
      go_wp2
      go_ret
      exact ⟨rfl, HK.out⟩
    | false =>
      by_cases h2 : z ≤ 4294967295
      · rw [decide_eq_true h2]
        go_enter Tryd.func29, Tryd.ntmps29
        go_wp2
        go_ret
        exact ⟨rfl, HK.out⟩
      · rw [decide_eq_false h2]
        go_enter Tryd.func29, Tryd.ntmps29
        go_wp2
        go_ret
        exact ⟨rfl, HK.out⟩
  · rw [decide_eq_false h1]
    go_enter Tryd.func29, Tryd.ntmps29
    go_wp2
    go_ret
    exact ⟨rfl, HK.out⟩
theorem be4_mod (n : Nat) : be4 (n % 4294967296) = be4 n := by
  unfold be4
  simp only [List.cons.injEq, and_true]
  refine ⟨?_, ?_, ?_, ?_⟩ <;> (apply UInt8.toNat_inj.1; rw [UInt8.toNat_ofNat', UInt8.toNat_ofNat']; omega)
set_option maxRecDepth 100000 in
set_option maxHeartbeats 1000000 in
theorem halves_any (seq : Nat) (w : World) (hs : seq < 18446744073709551616) : Calls Tryd.prog 30 #[.int .u64 seq] w fun e w' => ∃ v1 v2, e = .returned (.tuple #[v1, v2]) ∧ BOwn w' w.heap.size v1 (be4 (seq / 4294967296)) ∧ BOwn w' w.heap.size v2 (be4 seq) ∧ Keeps (fun _ => False) w w' := by
  have HN := Lib.hid (fun w => four_nat (seq / 4294967296) w (by omega))
  have HM := Lib.hid (fun w => four_nat (seq % 4294967296) w (by omega))
  rw [be4_mod] at HM
  obtain ⟨q, hq⟩ : ∃ q : Int, ((seq / 4294967296 : Nat) : Int) = q := ⟨_, rfl⟩
  obtain ⟨r, hr⟩ : ∃ r : Int, ((seq % 4294967296 : Nat) : Int) = r := ⟨_, rfl⟩
  rw [hq] at HN
  rw [hr] at HM
  obtain ⟨z, hz⟩ : ∃ z : Int, (seq : Int) = z := ⟨_, rfl⟩
  have h0 : 0 ≤ z := by omega
  have h1 : z.tdiv 4294967296 = q := by rw [Int.tdiv_eq_ediv_of_nonneg h0]; omega
  have h1' : z / 4294967296 = q := by omega
  have h2 : z.tmod 4294967296 = r := by rw [Int.tmod_eq_emod_of_nonneg h0]; omega
  have h2' : z % 4294967296 = r := by omega
  have b1 : 0 ≤ q ∧ q ≤ 4294967295 := by omega
  have b2 : 0 ≤ r ∧ r ≤ 4294967295 := by omega
  obtain ⟨b11, b12⟩ := b1
  obtain ⟨b21, b22⟩ := b2
  rw [hz]
  clear hs hq hr hz
  go_enter Tryd.func30, Tryd.ntmps30
  go_wp2_with fail
  refine (HN.out _).mono ?_
  rintro e w1 ⟨v1, rfl, ho1, hk1⟩
  have HO1 := Lib.hid ho1
  have HK1 := Lib.hid hk1
  clear ho1 hk1
  go_wp2_with fail
  refine (HM.out _).mono ?_
  rintro e w2 ⟨v2, rfl, ho2, hk2⟩
  have HO := Lib.hid (And.intro (HO1.out.keeps hk2 (fun _ _ h => h)) (ho2.mono HK1.out.size))
  have HK := Lib.hid (HK1.out.trans hk2 (fun _ _ h => h))
  clear ho2 hk2
  go_wp2
  go_ret2
  exact ⟨_, _, rfl, HO.out.1, HO.out.2, HK.out⟩
set_option maxRecDepth 100000 in
theorem rlen14_any (n : Nat) (w : World) (h : n ≤ 1000000000) : Calls Tryd.prog 9 #[.int .i64 n] w fun e w' => e = .returned (.int .i64 (lenS n : Nat)) ∧ w = w' := by
  have h0 : ¬ (n : Int) < 0 := by omega
  have hp := padLen_bd n
  have HP := Lib.hid (rplen_any n w h)
  have hl : (32 : Int) + (padLen n : Nat) = (lenS n : Nat) := by unfold lenS; omega
  have HL := Lib.hid hl
  clear hl
  obtain ⟨P, hP⟩ : ∃ P, padLen n = P := ⟨_, rfl⟩
  rw [hP] at hp HP HL
  go_enter Tryd.func9, Tryd.ntmps9
  go_wp2_with fail
  refine HP.out.mono ?_
  rintro e w1 ⟨rfl, rfl⟩
  go_wp2
  go_ret
  exact ⟨ret_int HL.out, rfl⟩
set_option maxRecDepth 100000 in
theorem rlen14_neg (n : Int) (w : World) (h : n < 0) : Calls Tryd.prog 9 #[.int .i64 n] w fun e w' => e = .returned (.int .i64 0) ∧ w = w' := by
  go_enter Tryd.func9, Tryd.ntmps9
  go_wp2
  go_ret
  exact ⟨rfl, rfl⟩
end Go.Proofs.YtekaoknpjpbjgaaDoor
