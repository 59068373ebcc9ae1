/- Words, walks and plain laws that the claim leans on, part 29. -/
import Derived.Test.YtekaoknpjpbjgaaDoorM18
import Derived.Test.YtekaoknpjpbjgaaDoorM26
import Derived.Test.YtekaoknpjpbjgaaDoorM28

/-! The law's own words: few, one, tag. -/
namespace Go.Proofs.YtekaoknpjpbjgaaDoor
set_option linter.unusedVariables false
set_option linter.unusedSimpArgs false
open Go.RowKit

def fewS (sa : SaV) : Bool := decide (sa.key.length + sa.salt.length + sa.mac.length ≤ 300)
set_option maxRecDepth 100000 in
set_option maxHeartbeats 1000000 in
theorem few_any (sa : SaV) (w : World) (hs : SizedSa sa) :
    Calls Tryd.prog 8 #[.agg (saC sa)] w fun e w' => e = .returned (.bool (fewS sa)) ∧ Keeps (fun _ => False) w w' := by
  have hk0 := (Keeps.refl (fun _ => False) w).alloc (.cells (saC sa) 23)
  obtain ⟨spi, key, salt, mac, esn, window⟩ := sa
  obtain ⟨s1, s2, s3⟩ := hs
  unfold saC fewS at *
  simp only at s1 s2 s3 hk0 ⊢
  have t1 : (key.length : Int) ≤ 140737488351232 := by omega
  have t2 : (salt.length : Int) ≤ 140737488351232 := by omega
  have t3 : (mac.length : Int) ≤ 140737488351232 := by omega
  have HK := Lib.hid hk0
  clear hk0 s1 s2 s3
  by_cases h : (key.length : Int) + (salt.length : Int) + (mac.length : Int) ≤ 300
  · rw [decide_eq_true (show key.length + salt.length + mac.length ≤ 300 by omega)]
    go_enter Tryd.func8, Tryd.ntmps8
    go_wp2
    go_ret
    exact ⟨rfl, HK.out⟩
  · rw [decide_eq_false (show ¬ key.length + salt.length + mac.length ≤ 300 by omega)]
    go_enter Tryd.func8, Tryd.ntmps8
    go_wp2
    go_ret
    exact ⟨rfl, HK.out⟩

def oneS : SaV := ⟨256, [48, 49, 50, 51, 52, 53, 54, 55, 56, 57, 97, 98, 99, 100, 101, 102], [115, 97, 108, 116], [48, 49, 50, 51, 52, 53, 54, 55, 56, 57, 97, 98, 99, 100, 101, 102, 48, 49, 50, 51, 52, 53, 54, 55, 56, 57, 97, 98, 99, 100, 101, 102], false, 64⟩
set_option maxRecDepth 100000 in
theorem one_any (w : World) : Calls Tryd.prog 35 #[] w fun e w' => e = .returned (.agg (saC oneS)) ∧ Keeps (fun _ => False) w w' := by
  go_enter Tryd.func35, Tryd.ntmps35
  go_wp2
  exact bodyPost_ret (results_cell_row (by rfl) _ _ _ _ _ (0, 0) _ (by rfl) (RowAt.new w _ _) Tryd.underlying23 rfl (by kernel_rfl)) rfl ⟨rfl, (Keeps.refl _ _).alloc _⟩

theorem b4_ofNat (n : Nat) (h : n < 4294967296) : b4 (UInt32.ofNat n) = be4 n := by
  have e : (UInt32.ofNat n).toNat = n := UInt32.toNat_ofNat_of_lt' h
  unfold b4 be4
  rw [e]
theorem four_nat (n : Nat) (w : World) (h : n < 4294967296) : Calls Tryd.prog 33 #[.int .i64 n] w (Gives (be4 n) w) := by
  have e : (UInt32.ofNat n).toNat = n := UInt32.toNat_ofNat_of_lt' h
  have := four_any (UInt32.ofNat n) w
  rwa [e, b4_ofNat n h] at this
set_option maxRecDepth 100000 in
set_option maxHeartbeats 1000000 in
/-- The law's tag is esp's. -/
theorem ltag_any (sa : SaV) (seq : Nat) (bv : Value) (b : List UInt8) (w : World) (hb : BRd w bv b) (hm : sa.mac.length = 32) (hbl : b.length ≤ 9000000) (hT : Table w) (hs : seq < 18446744073709551616) :
    Calls Tryd.prog 22 #[.agg (saC sa), .int .u64 seq, bv] w (Gives (tagS sa seq b) w) := by
  have hka := (Keeps.refl (fun _ => False) w).alloc (.cells (saC sa) 23)
  have hra := RowAt.new w (saC sa) 23
  obtain ⟨ba, bc, rfl, hbc, hbm⟩ := hb.slice
  obtain ⟨spi, key, salt, mac, esn, window⟩ := sa
  unfold saC at hka hra ⊢
  unfold tagS highOf
  simp only at hm hka hra ⊢
  have HN := Lib.hid (fun w => four_nat (seq / 4294967296) w (by omega))
  obtain ⟨Q, hQ⟩ : ∃ Q : Nat, seq / 4294967296 = Q := ⟨_, rfl⟩
  have hsh : (seq : Int) / 4294967296 = (Q : Int) := by omega
  have hst : (seq : Int).tdiv 4294967296 = (Q : Int) := by rw [Int.tdiv_eq_ediv_of_nonneg (by omega)]; exact hsh
  have hQl : (Q : Int) ≤ 4294967295 := by omega
  have hQ0 : 0 ≤ (Q : Int) := by omega
  rw [hQ] at HN ⊢
  have HM := Lib.hid hm
  have HKA := Lib.hid hka
  have HRA := Lib.hid hra
  have HB := Lib.hid hb
  have HT := Lib.hid hT
  obtain ⟨s, hsI⟩ : ∃ s : Int, (seq : Int) = s := ⟨_, rfl⟩
  rw [hsI] at hsh hst ⊢
  have hs0 : 0 ≤ s := by omega
  clear hm hka hra hb hT hs hsI hQ
  obtain ⟨qI, hqI⟩ : ∃ q : Int, (Q : Int) = q := ⟨_, rfl⟩
  rw [hqI] at HN hsh hst hQl hQ0
  clear hqI
  cases esn with
  | false =>
    have HK := Lib.hid HKA.out
    have HI := Lib.hid (BRd.nil_ (w.alloc (.cells #[.int .i64 spi, .string ⟨key.toArray⟩, .string ⟨salt.toArray⟩, .string ⟨mac.toArray⟩, .bool false, .int .i64 window] 23)))
    go_enter Tryd.func22, Tryd.ntmps22
    go_wp2_with fail
    generalize w.alloc (.cells #[.int .i64 spi, .string ⟨key.toArray⟩, .string ⟨salt.toArray⟩, .string ⟨mac.toArray⟩, .bool false, .int .i64 window] 23) = w4 at HK HI ⊢
    clear HRA HKA HN
    obtain ⟨kc, w5, hcv, hb4, hk4⟩ := conv_low w4 mac (by rw [HM.out]; decide)
    rw [hcv]
    go_wp2_with fail
    have hk5 := HK.out.trans hk4 (fun _ _ h => h)
    have hpair := (BBAt.pair (T := 25) (HB.out.keeps hk5) (BRd.keeps HI.out hk4)).low
    have hkv := hb4.keeps ((Keeps.refl (fun _ => False) w5).alloc (.cells #[.slice ba b.length bc, (.slice none 0 0)] 25))
    have hk6 : Keeps (fun _ => False) w (w5.alloc (.cells #[.slice ba b.length bc, (.slice none 0 0)] 25)) := hk5.alloc _
    have ht6 := HT.out.keeps hk6
    refine (tag_ok _ _ mac [b, []] _ hkv hpair (Nat.succ_pos _) (by show 2 ≤ 1000; omega) (by rw [show [b, []].flatten = b ++ [] by simp, List.length_append]; exact Nat.le_trans (Nat.add_le_add hbl (small_hi _ (by first | exact Nat.le_refl _ | exact Nat.zero_le _))) (by omega)) ht6 HM.out).mono ?_
    rintro e w7 ⟨v7, rfl, ho7, hk7⟩
    rw [show [b, []].flatten = b ++ [] by simp] at ho7
    try rw [List.append_nil] at ho7
    generalize hL : List.take 16 (hmac mac b) = L at ho7
    have HL := Lib.hid hL
    clear hL
    obtain ⟨va, vc, rfl, hvc, hvm⟩ := ho7.slice
    have HO := Lib.hid (ho7.mono (Nat.le_trans hk6.size (Nat.le_refl _)))
    have HK7 := Lib.hid (hk6.trans hk7 (fun _ _ h => h))
    clear ho7 hk7 hk6 ht6 hkv hpair hk5 hcv hb4 hk4
    go_wp2
    go_ret
    exact ⟨_, rfl, HL.out.symm ▸ HO.out, HK7.out⟩
  | true =>
    go_enter Tryd.func22, Tryd.ntmps22
    go_wp2_with fail
    trace_state
    refine (HN.out _).mono ?_
    rintro e w4 ⟨hv, rfl, ho4, hk4'⟩
    have HK := Lib.hid (HKA.out.trans hk4' (fun _ _ h => h))
    have hr4 := HRA.out.keeps hk4' (fun h => h)
    have c3 : w4.cell? ⟨w.heap.size, 3, none⟩ = some (.string ⟨mac.toArray⟩) := hr4.cell 3
    obtain ⟨ha, hc, rfl, hhc, hhm⟩ := ho4.slice
    have HI := Lib.hid (show BRd w4 _ _ from ho4.bat.low)
    clear hr4 hk4' ho4
    go_wp2_with fail
    obtain ⟨kc, w5, hcv, hb4, hk4⟩ := conv_low w4 mac (by rw [HM.out]; decide)
    rw [hcv]
    go_wp2_with fail
    have hk5 := HK.out.trans hk4 (fun _ _ h => h)
    have hpair := (BBAt.pair (T := 25) (HB.out.keeps hk5) (BRd.keeps HI.out hk4)).low
    have hkv := hb4.keeps ((Keeps.refl (fun _ => False) w5).alloc (.cells #[.slice ba b.length bc, (.slice ha (be4 Q).length hc)] 25))
    have hk6 : Keeps (fun _ => False) w (w5.alloc (.cells #[.slice ba b.length bc, (.slice ha (be4 Q).length hc)] 25)) := hk5.alloc _
    have ht6 := HT.out.keeps hk6
    refine (tag_ok _ _ mac [b, (be4 Q)] _ hkv hpair (Nat.succ_pos _) (by show 2 ≤ 1000; omega) (by rw [show [b, (be4 Q)].flatten = b ++ (be4 Q) by simp, List.length_append]; exact Nat.le_trans (Nat.add_le_add hbl (small_hi _ (by first | exact Nat.le_refl _ | exact Nat.zero_le _))) (by omega)) ht6 HM.out).mono ?_
    rintro e w7 ⟨v7, rfl, ho7, hk7⟩
    rw [show [b, (be4 Q)].flatten = b ++ (be4 Q) by simp] at ho7
    try rw [List.append_nil] at ho7
    generalize hL : List.take 16 (hmac mac (b ++ be4 Q)) = L at ho7
    have HL := Lib.hid hL
    clear hL
    obtain ⟨va, vc, rfl, hvc, hvm⟩ := ho7.slice
    have HO := Lib.hid (ho7.mono (Nat.le_trans hk6.size (Nat.le_refl _)))
    have HK7 := Lib.hid (hk6.trans hk7 (fun _ _ h => h))
    clear ho7 hk7 hk6 ht6 hkv hpair hk5 hcv hb4 hk4
    go_wp2
    go_ret
    exact ⟨_, rfl, HL.out.symm ▸ HO.out, HK7.out⟩
end Go.Proofs.YtekaoknpjpbjgaaDoor
