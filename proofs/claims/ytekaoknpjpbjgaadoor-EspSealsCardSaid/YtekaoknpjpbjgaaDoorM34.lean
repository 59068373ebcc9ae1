/- Words, walks and plain laws that the claim leans on, part 34. -/
import Derived.Test.YtekaoknpjpbjgaaDoorM7
import Derived.Test.YtekaoknpjpbjgaaDoorM8
import Derived.Test.YtekaoknpjpbjgaaDoorM23

/-! The reference's padding: Length, Seal. -/
namespace Go.Proofs.YtekaoknpjpbjgaaDoor
set_option linter.unusedVariables false
set_option linter.unusedSimpArgs false
open Go.RowKit

theorem padLen_mod (n m : Nat) (h1 : n + 2 ≤ m) (h2 : m ≤ padLen n) : m % 4 = 0 ↔ m = padLen n := by
  unfold padLen at *
  omega
set_option maxRecDepth 100000 in
set_option maxHeartbeats 1000000 in
theorem rplen_any (n : Nat) (w : World) (h : n ≤ 1000000000) : Calls Tryd.prog 23 #[.int .i64 n] w fun e w' => e = .returned (.int .i64 (padLen n : Nat)) ∧ w = w' := by
  have hb := padLen_bd n
  have hP := padLen_mod n
  generalize padLen n = P at *
  have h0 : ¬ (n : Int) < 0 := by omega
  have HP := Lib.hid hP
  clear hP
  go_enter Tryd.func23, Tryd.ntmps23
  go_wp2
  go_loop [0] (fun u0 => ∃ m : Nat, n + 2 ≤ m ∧ m ≤ P ∧ u0 = .int .i64 m) (fun u0 => P - (intOf u0).toNat)
  case atStart => exact ⟨n + 2, by omega, by omega, by go_num⟩
  case round =>
    obtain ⟨m, hm1, hm2, rfl⟩ := hrel
    have ht : (m : Int).tmod 4 = (m : Int) % 4 := Int.tmod_eq_emod_of_nonneg (by omega)
    by_cases hz : m = P
    · have hz4 : (m : Int) % 4 = 0 := by have := (HP.out m hm1 hm2).2 hz; omega
      subst hz
      go_wp2
      go_ret
      exact ⟨rfl, rfl⟩
    · have hz4 : ¬ (m : Int) % 4 = 0 := fun h => hz ((HP.out m hm1 hm2).1 (by omega))
      go_wp2
      go_round
      case rel => exact ⟨m + 1, by omega, by omega, by go_num⟩
      case measure => simp [intOf]; omega
set_option maxRecDepth 100000 in
theorem rplen_neg (n : Int) (w : World) (h : n < 0) : Calls Tryd.prog 23 #[.int .i64 n] w fun e w' => e = .returned (.int .i64 0) ∧ w = w' := by
  go_enter Tryd.func23, Tryd.ntmps23
  go_wp2
  go_ret
  exact ⟨rfl, rfl⟩

set_option maxRecDepth 100000 in
set_option maxHeartbeats 1000000 in
theorem rpseal_any (dv : Value) (data : List UInt8) (x : UInt8) (w : World) (hd : BRd w dv data) (hl : data.length ≤ 65000) :
    Calls Tryd.prog 31 #[dv, .int .i64 (x.toNat : Int)] w fun e w' => ∃ v, e = .returned (.tuple #[v, .int .i64 0]) ∧ BOwn w' w.heap.size v (padF data x) ∧ Keeps (fun _ => False) w w' := by
  obtain ⟨da, dc, rfl, -, -⟩ := BAt.slice hd
  have hx := m8_lt x
  have hb := padLen_bd data.length
  have hp4 := padN_lt data.length
  have hq' : padN data.length + data.length + 2 = padLen data.length := by unfold padN; omega
  have hP := padLen_mod data.length
  obtain ⟨n, hn⟩ : ∃ n, data.length = n := ⟨_, rfl⟩
  have hka0 := (Keeps.refl (fun _ => False) w).alloc (.cells #[.slice da data.length dc] 25)
  have HC := Lib.hid (both_any _ [data] _ (BBAt.one (T := 25) hd).low (by simp; omega))
  have HKA0 := Lib.hid hka0
  clear hd hka0
  rw [hn] at HC HKA0 hP hq' hb hp4 hl ⊢
  have HNN := Lib.hid hn
  clear hn
  obtain ⟨P, hPP⟩ : ∃ P, padLen n = P := ⟨_, rfl⟩
  obtain ⟨q, hq⟩ : ∃ q, padN n = q := ⟨_, rfl⟩
  rw [hPP] at hP hq' hb
  rw [hq] at hp4 hq'
  have HQ := Lib.hid hq
  have HP := Lib.hid hP
  clear hPP hq hP
  go_enter Tryd.func31, Tryd.ntmps31
  go_wp2_with fail
  refine HC.out.mono ?_
  rintro e w1 ⟨v1, rfl, ho1, hk1⟩
  rw [show [data].flatten = data by simp] at ho1
  have HO1 := Lib.hid (ho1.mono HKA0.out.size)
  have HK1 := Lib.hid (HKA0.out.trans hk1 (fun _ _ h => h))
  clear ho1 hk1 HC HKA0
  go_wp2
  go_loopw [6, 7] (fun u6 u7 wr => ∃ k : Nat, k ≤ q ∧ u7 = .int .i64 k ∧ BOwn wr w.heap.size u6 (data ++ padTail k) ∧ Keeps (fun _ => False) w wr) (fun _ u7 _ => q - (intOf u7).toNat)
  case atStart => exact ⟨0, by omega, rfl, by simpa [padTail] using HO1.out, HK1.out⟩
  case round =>
    obtain ⟨k, hkq, rfl, ho, hkr⟩ := hrel
    clear HO1 HK1
    obtain ⟨a2, c2, rfl, -, -⟩ := BOwn.slice ho
    have hLen : (data ++ padTail k).length = n + k := by rw [List.length_append, HNN.out, padTail_len]
    obtain ⟨M, hM⟩ : ∃ M, (data ++ padTail k).length = M := ⟨_, rfl⟩
    have hMn : M = n + k := by rw [← hM, hLen]
    rw [hM] at ho ⊢
    have HM := Lib.hid hM
    clear hM hLen
    have ht : ((M : Int) + 2).tmod 4 = ((M : Int) + 2) % 4 := Int.tmod_eq_emod_of_nonneg (by omega)
    by_cases hlt : k < q
    · have hz4 : ¬ ((M : Int) + 2) % 4 = 0 := fun h => by have := (HP.out (M + 2) (by omega) (by omega)).1 (by omega); omega
      have hbl := BAt.one wr ((k : Int) + 1) (UInt8.ofNat (k + 1)) 5 (by rw [ofNat_small _ (by omega)]; omega)
      have hka := (Keeps.refl (fun _ => False) wr).alloc (.cells #[.int .u8 ((k : Int) + 1)] 5)
      obtain ⟨v7, w7, hrun, hb7, hk7, -⟩ := run_append_bytes (ty := 25) (ho.keeps hka (fun _ _ h => h)) hbl (by rw [HM.out]; simp; omega) (by have := hka.size; have := hkr.size; omega)
      rw [List.append_assoc, ← padTail_succ] at hb7
      have HR := Lib.hid hrun
      have HB7 := Lib.hid hb7
      have HK7 := Lib.hid ((hkr.trans hka (fun _ _ h => h)).from hk7 (fun b hb => (ho.block b hb).1))
      clear hrun hb7 hk7 hka hbl hkr ho
      go_wp2_with (at_builtin; refine Lib.wpList_append_run _ rfl _ _ _ _ rfl _ _ rfl rfl _ _ HR.out ?_)
      go_roundw
      case rel => exact ⟨k + 1, by omega, by go_num, HB7.out, HK7.out⟩
      case measure => simp [intOf]; omega
    · obtain rfl : k = q := by omega
      have hz4 : ((M : Int) + 2) % 4 = 0 := by have := (HP.out (M + 2) (by omega) (by omega)).2 (by omega); omega
      have hbl := BAt.lit wr #[.int .u8 (k : Int), .int .u8 (x.toNat : Int)] [UInt8.ofNat k, x] 2 5 (by rw [← ofNat_small k (by omega)]; rfl) rfl (by omega)
      have hka := (Keeps.refl (fun _ => False) wr).alloc (.cells #[.int .u8 (k : Int), .int .u8 (x.toNat : Int)] 5)
      obtain ⟨v7, w7, hrun, hb7, hk7, -⟩ := run_append_bytes (ty := 25) (ho.keeps hka (fun _ _ h => h)) hbl (by rw [HM.out]; simp; omega) (by have := hka.size; have := hkr.size; omega)
      have hpf : data ++ padTail k ++ [UInt8.ofNat k, x] = padF data x := by unfold padF; rw [HNN.out, HQ.out]
      rw [hpf] at hb7
      have HR := Lib.hid hrun
      have HB7 := Lib.hid hb7
      have HK7 := Lib.hid ((hkr.trans hka (fun _ _ h => h)).from hk7 (fun b hb => (ho.block b hb).1))
      clear hrun hb7 hk7 hka hbl hkr ho hpf
      go_wp2_with (at_builtin; refine Lib.wpList_append_run _ rfl _ _ _ _ rfl _ _ rfl rfl _ _ HR.out ?_)
      go_ret2
      exact ⟨_, rfl, HB7.out, HK7.out⟩
end Go.Proofs.YtekaoknpjpbjgaaDoor

/-! The reference's padding: Open. -/
namespace Go.Proofs.YtekaoknpjpbjgaaDoor
set_option linter.unusedVariables false
set_option linter.unusedSimpArgs false
open Go.RowKit

def rOwn (B : Nat) (l : List UInt8) : Rel := ⟨fun v w => BOwn w B v l, fun _ _ _ h hk => h.keeps hk (fun _ _ h => h)⟩
set_option maxRecDepth 100000 in
set_option maxHeartbeats 2000000 in
theorem rpopen_any (bv : Value) (b : List UInt8) (w : World) (hb : BRd w bv b) (hl : b.length ≤ 100000) :
    Calls Tryd.prog 41 #[bv] w (POpen b w) := by
  by_cases h2 : b.length < 2
  · obtain ⟨ba, bc, rfl, -, -⟩ := BAt.slice hb
    have h2' : (b.length : Int) < 2 := by omega
    have hpo : padOpen b = none := by unfold padOpen; simp only; rw [if_pos h2]
    have HP := Lib.hid hpo
    clear hpo hb
    go_enter Tryd.func41, Tryd.ntmps41
    go_wp2
    refine bodyPost_ret (results_tmp3 rfl _ _ _) rfl ?_
    unfold POpen
    rw [HP.out]
    exact ⟨8, by omega, rfl, Keeps.refl _ _⟩
  · obtain ⟨bb, bo, bc, rfl, hbc, hbm, hbl, hcell⟩ := BAt.at8 hb (by omega)
    obtain ⟨M, hM⟩ : ∃ M, b.length = M + 2 := ⟨b.length - 2, by omega⟩
    obtain ⟨x0, hx0⟩ : ∃ x, at8 b M = x := ⟨_, rfl⟩
    obtain ⟨x1, hx1⟩ : ∃ x, at8 b (M + 1) = x := ⟨_, rfl⟩
    have c0 := hcell M (by omega)
    have c1 := hcell (M + 1) (by omega)
    rw [hx0] at c0
    rw [hx1] at c1
    have hxl := m8_lt x0
    obtain ⟨n, hn⟩ : ∃ n, x0.toNat = n := ⟨_, rfl⟩
    have hpo : padOpen b = if M < n then none else if (b.drop (M - n)).take n = padTail n then some (b.take (M - n), x1) else none := by
      unfold padOpen
      simp only [hM, Nat.add_sub_cancel, hx0, hn, show M + 2 - 1 = M + 1 by omega, hx1]
      rw [if_neg (by omega)]
    obtain ⟨L, hL⟩ : ∃ L, b.length = L := ⟨_, rfl⟩
    have HB := Lib.hid hb
    have HCELL := Lib.hid hcell
    rw [hL] at HB hbc hM hl ⊢
    have HLL := Lib.hid hL
    have hM2 : (L : Int) - 2 = (M : Int) := by omega
    have hML : (M : Int) < (L : Int) := by omega
    have h2' : ¬ (L : Int) < 2 := by omega
    have HPO := Lib.hid hpo
    have HM := Lib.hid hM
    rw [hn] at c0 hxl
    clear hb hcell hL hM hpo hx0 hx1 h2
    by_cases hnM : M < n
    · have hnM' : (M : Int) - (n : Int) < 0 := by omega
      go_enter Tryd.func41, Tryd.ntmps41
      go_wp2
      refine bodyPost_ret (results_tmp3 rfl _ _ _) rfl ?_
      unfold POpen
      rw [HPO.out, if_pos hnM]
      exact ⟨130, by omega, rfl, Keeps.refl _ _⟩
    · obtain ⟨f, hf⟩ : ∃ f, M = f + n := ⟨M - n, by omega⟩
      have hfn : (M : Int) - (n : Int) = (f : Int) := by omega
      have hMf : M - f = n := by omega
      have hfM : f ≤ M := by omega
      have HF := Lib.hid hf
      clear hf
      go_enter Tryd.func41, Tryd.ntmps41
      go_wp2
      have hrl : (b.drop f).length = n + 2 := by rw [List.length_drop, HLL.out, HM.out, HF.out]; omega
      have HRL := Lib.hid hrl
      clear hrl
      go_loop [7] (fun u7 => ∃ k : Nat, k ≤ n ∧ u7 = .int .i64 k ∧ (b.drop f).take k = padTail k) (fun u7 => n - (intOf u7).toNat)
      case atStart => exact ⟨0, by omega, rfl, rfl⟩
      case round =>
        obtain ⟨k, hk, rfl, ht⟩ := hrel
        have HT := Lib.hid ht
        clear ht
        by_cases hlt : k < n
        · obtain ⟨m, hm⟩ : ∃ m, (at8 (b.drop f) k).toNat = m := ⟨_, rfl⟩
          have ck := HCELL.out (f + k) (by rw [HLL.out, HM.out, HF.out]; omega)
          rw [← at8_drop, hm] at ck
          have hm8 : m < 256 := by rw [← hm]; exact m8_lt _
          have HMK := Lib.hid hm
          clear hm
          obtain ⟨fk, hfk⟩ : ∃ fk, f + k = fk := ⟨_, rfl⟩
          rw [hfk] at ck
          have hfkI : (f : Int) + (k : Int) = (fk : Int) := by omega
          have hfkL : (fk : Int) < (L : Int) := by have := HM.out; have := HF.out; omega
          clear hfk
          by_cases hmk : m = k + 1
          · have hmI : (m : Int) = (k : Int) + 1 := by omega
            have HMK2 := Lib.hid hmk
            clear hmk
            go_wp2
            go_round
            case rel => exact ⟨k + 1, by omega, by go_num, take_tail _ (n + 2) k HRL.out HT.out (by omega) (by rw [HMK.out, HMK2.out])⟩
            case measure => simp [intOf]; omega
          · have hmI : ¬ (m : Int) = (k : Int) + 1 := by omega
            have hno : ¬ (b.drop f).take n = padTail n := by
              have h9 := take_no ((b.drop f).take n) n k (by rw [List.length_take, HRL.out]; omega) hlt (by omega) (by
                have e : at8 ((b.drop f).take n) k = at8 (b.drop f) k := by unfold at8; rw [List.getD_eq_getElem?_getD, List.getD_eq_getElem?_getD, List.getElem?_take_of_lt hlt]
                rw [e, HMK.out]
                exact hmk)
              rwa [List.take_of_length_le (by rw [List.length_take]; omega)] at h9
            have HNO := Lib.hid hno
            clear hmk hno
            go_wp2
            refine bodyPost_ret (results_tmp3 rfl _ _ _) rfl ?_
            unfold POpen
            rw [HPO.out, if_neg hnM, if_neg (by rw [show M - n = f by have := HF.out; omega]; exact HNO.out)]
            exact ⟨130, by omega, rfl, Keeps.refl _ _⟩
        · obtain rfl : k = n := by omega
          have hbt : BRd w (.slice (some ⟨bb, bo, none⟩) f bc) (b.take f) := BAt.take8 HB.out f (by rw [HLL.out]; have := HM.out; have := HF.out; omega)
          have hfl : (b.take f).length = f := by rw [List.length_take, HLL.out]; have := HM.out; have := HF.out; omega
          have hx1l := m8_lt x1
          have hfb : (f : Int) ≤ (bc : Int) := by have := HM.out; have := HF.out; omega
          have hpo : padOpen b = some (b.take f, x1) := by rw [HPO.out, if_neg hnM, show M - k = f by have := HF.out; omega, if_pos HT.out]
          have HP := Lib.hid hpo
          have hL1 : (L : Int) - 1 = ((M + 1 : Nat) : Int) := by have := HM.out; omega
          obtain ⟨M1, hM1⟩ : ∃ M1, M + 1 = M1 := ⟨_, rfl⟩
          rw [hM1] at hL1 c1
          have hL1w : IntKind.i64.wrap ((L : Int) - 1) = (M1 : Int) := by rw [hL1]; exact i64_f _ (by omega) (by omega)
          have hM1L : (M1 : Int) < (L : Int) := by clear hL1w; omega
          have HBT := Lib.hid hbt
          have HFL := Lib.hid (show (b.take f).length ≤ 140737488355328 by omega)
          have hw1 : IntKind.i64.wrap (x1.toNat : Int) = (x1.toNat : Int) := i64_f _ (by clear hL1w; omega) (by clear hL1w; omega)
          clear hpo hbt hfl hM1 hL1
          go_wp2
          refine region_T [] (fun _ => True) (by kernel_rfl) ?_
          have hC : (fun _ : World => True) w.drew := trivial
          have hkD : Keeps (fun _ => False) w w.drew := (Keeps.refl _ _).drew
          refine anyT_take0 (i := 0) (v := ?_) rfl (by kernel_rfl) (by kernel_rfl) (by kernel_rfl) (by kernel_rfl) (by kernel_rfl) (fun _ _ _ h => h) hC (.inl ⟨by rfl, fun _ _ => ?_⟩) ?_
          rotate_left 1
          · go_simp
            try with_reducible rfl
          simp only [Act.put, List.getElem_toArray, List.getElem_cons_succ, List.getElem_cons_zero, List.setIfInBounds_toArray, List.set_cons_zero, List.set_cons_succ]
          refine anyT_take0 (i := 1) (v := ?_) rfl (by kernel_rfl) (by kernel_rfl) (by kernel_rfl) (by kernel_rfl) (by kernel_rfl) (fun _ _ _ h => h) hC (.inl ⟨by rfl, fun _ _ => ?_⟩) ?_
          rotate_left 1
          · go_simp
            try with_reducible rfl
          simp only [Act.put, List.getElem_toArray, List.getElem_cons_succ, List.getElem_cons_zero, List.setIfInBounds_toArray, List.set_cons_zero, List.set_cons_succ]
          refine anyT_take0 (i := 2) (v := ?_) rfl (by kernel_rfl) (by kernel_rfl) (by kernel_rfl) (by kernel_rfl) (by kernel_rfl) (fun _ _ _ h => h) hC (.inl ⟨by rfl, fun _ _ => ?_⟩) ?_
          rotate_left 1
          · go_simp
            try with_reducible rfl
          simp only [Act.put, List.getElem_toArray, List.getElem_cons_succ, List.getElem_cons_zero, List.setIfInBounds_toArray, List.set_cons_zero, List.set_cons_succ]
          refine anyT_take0 (i := 5) (v := ?_) rfl (by kernel_rfl) (by kernel_rfl) (by kernel_rfl) (by kernel_rfl) (by kernel_rfl) (fun _ _ _ h => h) hC (.inl ⟨by rfl, fun _ _ => ?_⟩) ?_
          rotate_left 1
          · go_simp
            try with_reducible rfl
          simp only [Act.put, List.getElem_toArray, List.getElem_cons_succ, List.getElem_cons_zero, List.setIfInBounds_toArray, List.set_cons_zero, List.set_cons_succ]
          refine anyT_take0 (i := 6) (v := ?_) rfl (by kernel_rfl) (by kernel_rfl) (by kernel_rfl) (by kernel_rfl) (by kernel_rfl) (fun _ _ _ h => h) hC (.inl ⟨by rfl, fun _ _ => ?_⟩) ?_
          rotate_left 1
          · go_simp
            try with_reducible rfl
          simp only [Act.put, List.getElem_toArray, List.getElem_cons_succ, List.getElem_cons_zero, List.setIfInBounds_toArray, List.set_cons_zero, List.set_cons_succ]
          refine anyT_take0 (i := 7) (v := ?_) rfl (by kernel_rfl) (by kernel_rfl) (by kernel_rfl) (by kernel_rfl) (by kernel_rfl) (fun _ _ _ h => h) hC (.inl ⟨by rfl, fun _ _ => ?_⟩) ?_
          rotate_left 1
          · go_simp
            try with_reducible rfl
          simp only [Act.put, List.getElem_toArray, List.getElem_cons_succ, List.getElem_cons_zero, List.setIfInBounds_toArray, List.set_cons_zero, List.set_cons_succ]
          refine anyT_take0 (i := 8) (v := ?_) rfl (by kernel_rfl) (by kernel_rfl) (by kernel_rfl) (by kernel_rfl) (by kernel_rfl) (fun _ _ _ h => h) hC (.inl ⟨by rfl, fun _ _ => ?_⟩) ?_
          rotate_left 1
          · go_simp
            try with_reducible rfl
          simp only [Act.put, List.getElem_toArray, List.getElem_cons_succ, List.getElem_cons_zero, List.setIfInBounds_toArray, List.set_cons_zero, List.set_cons_succ]
          refine anyT_take0 (i := 9) (v := ?_) rfl (by kernel_rfl) (by kernel_rfl) (by kernel_rfl) (by kernel_rfl) (by kernel_rfl) (fun _ _ _ h => h) hC (.inl ⟨by rfl, fun _ _ => ?_⟩) ?_
          rotate_left 1
          · go_simp
            try with_reducible rfl
          simp only [Act.put, List.getElem_toArray, List.getElem_cons_succ, List.getElem_cons_zero, List.setIfInBounds_toArray, List.set_cons_zero, List.set_cons_succ]
          refine anyT_par [(3, rRows [b.take f]), (4, rOwn w.heap.size (b.take f)), (10, rEq (.int .u8 (x1.toNat : Int))), (11, rEq (.int .i64 (x1.toNat : Int))), (12, rOwn w.heap.size (b.take f)), (13, rEq (.int .i64 (x1.toNat : Int))), (14, rEq (.int .i64 0))] _ [3, 4, 10, 11, 12, 13, 14] (fun _ => trivial) (by kernel_rfl) rfl (by kernel_rfl) rfl ?_
          refine ⟨_, rfl, fun w2 hk2 hK => ?_, fun u3 => ?_⟩
          rotate_left 1
          simp only [dstOf, Act.put, List.getElem?_toArray, List.getElem?_cons_succ, List.getElem?_cons_zero, Option.bind_some, List.setIfInBounds_toArray, List.set_cons_zero, List.set_cons_succ, List.nil_append, List.cons_append]
          rotate_left 1
          · go_wp2
            exact ⟨_, rfl, (BBAt.one (T := 25) (BRd.keeps HBT.out (hkD.trans hk2 (fun _ _ h => h)))).low, (Keeps.refl _ _).alloc _⟩
          refine ⟨_, rfl, fun w2 hk2 hK => ?_, fun u4 => ?_⟩
          rotate_left 1
          simp only [dstOf, Act.put, List.getElem?_toArray, List.getElem?_cons_succ, List.getElem?_cons_zero, Option.bind_some, List.setIfInBounds_toArray, List.set_cons_zero, List.set_cons_succ, List.nil_append, List.cons_append]
          rotate_left 1
          · have h3 : BBRd w2 u3 [b.take f] := hK (3, u3) (by simp) (by kernel_rfl)
            go_wp2_with fail
            refine (both_any _ [b.take f] _ h3 (by simp only [List.flatten_cons, List.flatten_nil, List.append_nil]; exact HFL.out)).mono ?_
            rintro e w3 ⟨v3, rfl, ho3, hk3⟩
            rw [show [b.take f].flatten = b.take f by simp] at ho3
            go_wp2
            exact ⟨_, rfl, ho3.mono (hkD.trans hk2 (fun _ _ h => h)).size, hk3⟩
          refine ⟨_, rfl, fun w2 hk2 hK => ?_, fun u10 => ?_⟩
          rotate_left 1
          simp only [dstOf, Act.put, List.getElem?_toArray, List.getElem?_cons_succ, List.getElem?_cons_zero, Option.bind_some, List.setIfInBounds_toArray, List.set_cons_zero, List.set_cons_succ, List.nil_append, List.cons_append]
          rotate_left 1
          · have e1 := (hkD.trans hk2 (fun _ _ h => h)).cell c1 (fun h => h)
            go_wp2
            exact ⟨_, rfl, rfl, Keeps.refl _ _⟩
          refine ⟨_, rfl, fun w2 hk2 hK => ?_, fun u11 => ?_⟩
          rotate_left 1
          simp only [dstOf, Act.put, List.getElem?_toArray, List.getElem?_cons_succ, List.getElem?_cons_zero, Option.bind_some, List.setIfInBounds_toArray, List.set_cons_zero, List.set_cons_succ, List.nil_append, List.cons_append]
          rotate_left 1
          · obtain rfl : u10 = .int .u8 (x1.toNat : Int) := hK (10, u10) (by simp) (by kernel_rfl)
            go_wp2
            exact ⟨_, rfl, rfl, Keeps.refl _ _⟩
          refine ⟨_, rfl, fun w2 hk2 hK => ?_, fun u12 => ?_⟩
          rotate_left 1
          simp only [dstOf, Act.put, List.getElem?_toArray, List.getElem?_cons_succ, List.getElem?_cons_zero, Option.bind_some, List.setIfInBounds_toArray, List.set_cons_zero, List.set_cons_succ, List.nil_append, List.cons_append]
          rotate_left 1
          · have h4 : BOwn w2 w.heap.size u4 (b.take f) := hK (4, u4) (by simp) (by kernel_rfl)
            go_wp2
            exact ⟨_, rfl, h4, Keeps.refl _ _⟩
          refine ⟨_, rfl, fun w2 hk2 hK => ?_, fun u13 => ?_⟩
          rotate_left 1
          simp only [dstOf, Act.put, List.getElem?_toArray, List.getElem?_cons_succ, List.getElem?_cons_zero, Option.bind_some, List.setIfInBounds_toArray, List.set_cons_zero, List.set_cons_succ, List.nil_append, List.cons_append]
          rotate_left 1
          · obtain rfl : u11 = .int .i64 (x1.toNat : Int) := hK (11, u11) (by simp) (by kernel_rfl)
            go_wp2
            exact ⟨_, rfl, rfl, Keeps.refl _ _⟩
          refine ⟨_, rfl, fun w2 hk2 hK => ?_, fun u14 => ?_⟩
          rotate_left 1
          simp only [dstOf, Act.put, List.getElem?_toArray, List.getElem?_cons_succ, List.getElem?_cons_zero, Option.bind_some, List.setIfInBounds_toArray, List.set_cons_zero, List.set_cons_succ, List.nil_append, List.cons_append]
          rotate_left 1
          · go_wp2
            exact ⟨_, rfl, rfl, Keeps.refl _ _⟩
          intro w3 hk3 hK
          have h12 : BOwn w3 w.heap.size u12 (b.take f) := hK (12, u12) (by simp)
          obtain rfl : u13 = .int .i64 (x1.toNat : Int) := hK (13, u13) (by simp)
          obtain rfl : u14 = .int .i64 0 := hK (14, u14) (by simp)
          have HO := Lib.hid h12
          have HK := Lib.hid (hkD.trans hk3 (fun _ _ h => h))
          clear h12 hK hk3 hkD
          go_wp2
          refine bodyPost_ret (results_tmp3 rfl _ _ _) rfl ?_
          unfold POpen
          rw [HP.out]
          exact ⟨_, rfl, HO.out, HK.out⟩
end Go.Proofs.YtekaoknpjpbjgaaDoor
