/- Words, walks and plain laws that the claim leans on, part 41. -/
import Derived.Test.YtekaoknpjpbjgaaDoorM26
import Derived.Test.YtekaoknpjpbjgaaDoorM31
import Derived.Test.YtekaoknpjpbjgaaDoorM40

/-! The reference of layer 14: four, Peek, tag. -/
namespace Go.Proofs.YtekaoknpjpbjgaaDoor
set_option linter.unusedVariables false
set_option linter.unusedSimpArgs false
open Go.RowKit

theorem quiet_of2 {P : Program} {f : FuncId} {args : Array Value} {w : World} {k n : Nat} {v : Value}
    (h : Calls P f args (w.drewN (k + n)) fun e w' => e = .returned v ∧ ∃ m, w' = (w.drewN (k + n)).drewN m) : Calls P f args (w.drewN (k + n)) fun e w'' => e = .returned v ∧ ∃ m, w'' = w.drewN (k + m) :=
  h.mono fun _ _ ⟨he, m, hm⟩ => ⟨he, n + m, by rw [hm, World.drewN_drewN, Nat.add_assoc]⟩
set_option maxRecDepth 100000 in
set_option maxHeartbeats 1000000 in
theorem rfour_any (v : Value) (l : List UInt8) (w : World) (h : BRd w v l) (h4 : 4 ≤ l.length) :
    Calls Tryd.prog 40 #[v] w fun e w' => e = .returned (.int .i64 (val4 l : Nat)) ∧ ∃ m, w' = w.drewN m := by
  obtain ⟨b, off, c, rfl, hc, hm, -, hcell⟩ := BAt.at8 h (by omega)
  have c0 := hcell 0 (by omega)
  have c1 := hcell 1 (by omega)
  have c2 := hcell 2 (by omega)
  have c3 := hcell 3 (by omega)
  rw [Nat.add_zero] at c0
  have b0 := (at8 l 0).toNat_lt
  have b1 := (at8 l 1).toNat_lt
  have b2 := (at8 l 2).toNat_lt
  have b3 := (at8 l 3).toNat_lt
  have hr : (16777216 : Int) * ((at8 l 0).toNat : Int) + 65536 * ((at8 l 1).toNat : Int) + 256 * ((at8 l 2).toNat : Int) + ((at8 l 3).toNat : Int) = (val4 l : Int) := by unfold val4; omega
  have HR := Lib.hid hr
  generalize (at8 l 0).toNat = X0 at *
  generalize (at8 l 1).toNat = X1 at *
  generalize (at8 l 2).toNat = X2 at *
  generalize (at8 l 3).toNat = X3 at *
  have g0 : (X0 : Int) ≤ 255 := by omega
  have g1 : (X1 : Int) ≤ 255 := by omega
  have g2 : (X2 : Int) ≤ 255 := by omega
  have g3 : (X3 : Int) ≤ 255 := by omega
  have hl0 : (0 : Int) < (l.length : Int) := by omega
  have hl1 : (1 : Int) < (l.length : Int) := by omega
  have hl2 : (2 : Int) < (l.length : Int) := by omega
  have hl3 : (3 : Int) < (l.length : Int) := by omega
  clear b0 b1 b2 b3 hr hcell h
  go_enter Tryd.func40, Tryd.ntmps40
  go_wp2
  go_quiet (fail)
  go_wp2
  go_ret
  exact ⟨ret_int HR.out, _, rfl⟩
set_option maxRecDepth 100000 in
set_option maxHeartbeats 1000000 in
theorem rpeek_any (bv : Value) (b : List UInt8) (w : World) (hb : BRd w bv b) :
    Calls Tryd.prog 20 #[bv] w fun e w' => e = .returned (.tuple #[.int .i64 (peekS b).1, .int .i64 (peekS b).2.1, .int .i64 (peekS b).2.2]) ∧ ∃ m, w' = w.drewN m := by
  by_cases h8 : b.length < 8
  · obtain ⟨ba, bc, rfl, -, -⟩ := BAt.slice hb
    unfold peekS
    rw [if_pos h8]
    simp only
    have h8' : (b.length : Int) < 8 := by omega
    clear hb
    go_enter Tryd.func20, Tryd.ntmps20
    go_wp2
    refine bodyPost_ret (results_tmp3 rfl _ _ _) rfl ?_
    exact ⟨rfl, 0, rfl⟩
  · obtain ⟨g, off, c, rfl, hc, hm, -, -⟩ := BAt.get hb (by omega)
    unfold peekS
    rw [if_neg h8]
    simp only
    have h8' : ¬ (b.length : Int) < 8 := by omega
    have h4 : (4 : Int) ≤ (b.length : Int) := by omega
    have hc4 : ¬ c = 4 := by omega
    have hbd : BRd w (.slice (cutA (some ⟨g, off, none⟩) c 4) (b.length - 4) (c - 4)) (b.drop 4) := BAt.cutG hb 4 (by omega)
    rw [show cutA (some ⟨g, off, none⟩) c 4 = some ⟨g, off + 4, none⟩ by unfold cutA; rw [if_neg hc4, Option.map_some, addr_add]] at hbd
    have H1 := Lib.hid (fun n => rfour_any _ _ (w.drewN n) (BRd.keeps hb ((Keeps.refl _ _).drewN n)) (by omega))
    have H2 := Lib.hid (fun n => rfour_any _ _ (w.drewN n) (BRd.keeps hbd ((Keeps.refl _ _).drewN n)) (by rw [List.length_drop]; omega))
    clear hbd hb
    go_enter Tryd.func20, Tryd.ntmps20
    go_wp2
    go_quiet (first | with_reducible exact Calls.quiet_of (H1.out _) | with_reducible exact quiet_of2 (H1.out _) | with_reducible exact Calls.quiet_of (H2.out _) | with_reducible exact quiet_of2 (H2.out _))
    go_wp2
    refine bodyPost_ret (results_tmp3 rfl _ _ _) rfl ?_
    exact ⟨rfl, _, rfl⟩

set_option maxRecDepth 100000 in
set_option maxHeartbeats 2000000 in
theorem rtag14_any (sa : SaV) (seq : Nat) (bv : Value) (b : List UInt8) (w : World) (hb : BRd w bv b) (hm : sa.mac.length = 32) (hbl : b.length ≤ 9000) (hs : seq < 18446744073709551616) :
    Calls Tryd.prog 34 #[.agg (saC sa), .int .u64 seq, bv] w fun e w' => e = .returned (.string ⟨(tagS sa seq b).toArray⟩) ∧ Keeps (fun _ => False) w w' := by
  have hka := (Keeps.refl (fun _ => False) w).alloc (.cells (saC sa) 23)
  have hra := RowAt.new w (saC sa) 23
  obtain ⟨ba, bc, rfl, hbc, hbm⟩ := hb.slice
  obtain ⟨spi, key, salt, mac, esn, window⟩ := sa
  unfold saC at hka hra ⊢
  unfold tagS highOf
  simp only at hm hka hra ⊢
  have HH := Lib.hid (fun w => halves_any seq w hs)
  obtain ⟨z, hz⟩ : ∃ z : Int, (seq : Int) = z := ⟨_, rfl⟩
  rw [hz] at HH ⊢
  have HM := Lib.hid hm
  have HKA := Lib.hid hka
  have HRA := Lib.hid hra
  have HB := Lib.hid hb
  clear hm hka hra hb hs hz
  have hH4 : (be4 (seq / 4294967296)).length = 4 := rfl
  generalize be4 (seq / 4294967296) = H4 at *
  obtain ⟨T, hT⟩ : ∃ T, (hmac mac (b ++ if esn = true then H4 else [])).take 16 = T := ⟨_, rfl⟩
  rw [hT]
  go_enter Tryd.func34, Tryd.ntmps34
  go_wp2_with fail
  refine (HH.out _).mono ?_
  rintro e w1 ⟨v1, v2, rfl, ho1, -, hk1⟩
  have HK := Lib.hid (HKA.out.trans hk1 (fun _ _ h => h))
  have c4 := (HRA.out.keeps hk1 (fun h => h)).cell 4
  have c3 : w1.cell? ⟨w.heap.size, 3, none⟩ = some (.string ⟨mac.toArray⟩) := (HRA.out.keeps hk1 (fun h => h)).cell 3
  obtain ⟨a1, c1, rfl, -, -⟩ := ho1.slice
  have HI := Lib.hid (show BRd w1 _ H4 from ho1.bat.low)
  rw [hH4] at HI ⊢
  clear hk1 ho1 HKA HRA HH
  cases esn with
  | true =>
    obtain ⟨H, hH⟩ : ∃ H, H4 = H := ⟨_, rfl⟩
    rw [if_pos rfl] at hT
    rw [hH] at HI hH4 hT
    have hH5 : H.length ≤ 4 := by omega
    have HT := Lib.hid hT
    clear hT hH hH4
    go_wp2
    refine region_T [] (fun _ => True) (by kernel_rfl) ?_
    have hC : (fun _ : World => True) w1.drew := trivial
    have hkD : Keeps (fun _ => False) w1 w1.drew := (Keeps.refl _ _).drew
    refine anyT_take0 (i := 0) (v := ?_) rfl (by kernel_rfl) (by kernel_rfl) (by kernel_rfl) (by kernel_rfl) (by kernel_rfl) (fun _ _ _ h => h) hC (.inl ⟨by rfl, fun _ _ => ?_⟩) ?_
    rotate_left 1
    · go_simp
      try with_reducible rfl
    simp only [Act.put, List.getElem_toArray, List.getElem_cons_succ, List.getElem_cons_zero, List.setIfInBounds_toArray, List.set_cons_zero, List.set_cons_succ]
    refine anyT_take0 (i := 3) (v := ?_) rfl (by kernel_rfl) (by kernel_rfl) (by kernel_rfl) (by kernel_rfl) (by kernel_rfl) (fun _ _ _ h => h) hC (.inl ⟨by rfl, fun _ _ => ?_⟩) ?_
    rotate_left 1
    · go_simp
      try with_reducible rfl
    simp only [Act.put, List.getElem_toArray, List.getElem_cons_succ, List.getElem_cons_zero, List.setIfInBounds_toArray, List.set_cons_zero, List.set_cons_succ]
    refine anyT_take0 (i := 4) (v := ?_) rfl (by kernel_rfl) (by kernel_rfl) (by kernel_rfl) (by kernel_rfl) (by kernel_rfl) (fun _ _ _ h => h) hC (.inl ⟨by rfl, fun _ _ => ?_⟩) ?_
    rotate_left 1
    · go_simp
      try with_reducible rfl
    simp only [Act.put, List.getElem_toArray, List.getElem_cons_succ, List.getElem_cons_zero, List.setIfInBounds_toArray, List.set_cons_zero, List.set_cons_succ]
    refine anyT_par [(1, rEq (.string ⟨mac.toArray⟩)), (2, rBytes mac), (5, rRows [b, H]), (6, rBytes (b ++ H)), (7, rPair T), (8, rPair T), (9, rBytes T), (10, rEq (.int .i64 0)), (11, rBytes T), (12, rEq (.int .i64 0))] _ [1, 2, 5, 6, 7, 8, 9, 10, 11, 12] (fun _ => trivial) (by kernel_rfl) rfl (by kernel_rfl) rfl ?_
    refine ⟨_, rfl, fun w2 hk2 hK => ?_, fun u1 => ?_⟩
    rotate_left 1
    simp only [dstOf, Act.put, List.getElem?_toArray, List.getElem?_cons_succ, List.getElem?_cons_zero, Option.bind_some, List.setIfInBounds_toArray, List.set_cons_zero, List.set_cons_succ, List.nil_append, List.cons_append]
    rotate_left 1
    · have e1 := (hkD.trans hk2 (fun _ _ h => h)).cell c3 (fun h => h)
      go_wp2
      exact ⟨_, rfl, rfl, Keeps.refl _ _⟩
    refine ⟨_, rfl, fun w2 hk2 hK => ?_, fun u2 => ?_⟩
    rotate_left 1
    simp only [dstOf, Act.put, List.getElem?_toArray, List.getElem?_cons_succ, List.getElem?_cons_zero, Option.bind_some, List.setIfInBounds_toArray, List.set_cons_zero, List.set_cons_succ, List.nil_append, List.cons_append]
    rotate_left 1
    · obtain rfl : u1 = .string ⟨mac.toArray⟩ := hK (1, u1) (by simp) (by kernel_rfl)
      obtain ⟨kc, w4, hcv, hb4, hk4⟩ := conv_low _ mac (by rw [HM.out]; decide)
      go_wp2_with fail
      rw [hcv]
      go_wp2
      exact ⟨_, rfl, hb4, hk4⟩
    refine ⟨_, rfl, fun w2 hk2 hK => ?_, fun u5 => ?_⟩
    rotate_left 1
    simp only [dstOf, Act.put, List.getElem?_toArray, List.getElem?_cons_succ, List.getElem?_cons_zero, Option.bind_some, List.setIfInBounds_toArray, List.set_cons_zero, List.set_cons_succ, List.nil_append, List.cons_append]
    rotate_left 1
    · have hke := hkD.trans hk2 (fun _ _ h => h)
      have hpair := (BBAt.pair (T := 25) (HB.out.keeps (HK.out.trans hke (fun _ _ h => h))) (BRd.keeps HI.out hke)).low
      go_wp2
      exact ⟨_, rfl, hpair, (Keeps.refl _ _).alloc _⟩
    refine ⟨_, rfl, fun w2 hk2 hK => ?_, fun u6 => ?_⟩
    rotate_left 1
    simp only [dstOf, Act.put, List.getElem?_toArray, List.getElem?_cons_succ, List.getElem?_cons_zero, Option.bind_some, List.setIfInBounds_toArray, List.set_cons_zero, List.set_cons_succ, List.nil_append, List.cons_append]
    rotate_left 1
    · have h5 : BBRd w2 u5 [b, H] := hK (5, u5) (by simp) (by kernel_rfl)
      go_wp2_with fail
      refine (both_any _ [b, H] _ h5 (by simp only [List.flatten_cons, List.flatten_nil, List.append_nil, List.length_append]; omega)).mono ?_
      rintro e w3 ⟨v3, rfl, ho3, hk3⟩
      rw [show [b, H].flatten = b ++ H by simp] at ho3
      go_wp2
      exact ⟨_, rfl, ho3.bat.low, hk3⟩
    refine ⟨_, rfl, fun w2 hk2 hK => ?_, fun u7 => ?_⟩
    rotate_left 1
    simp only [dstOf, Act.put, List.getElem?_toArray, List.getElem?_cons_succ, List.getElem?_cons_zero, Option.bind_some, List.setIfInBounds_toArray, List.set_cons_zero, List.set_cons_succ, List.nil_append, List.cons_append]
    rotate_left 1
    · have h2 : BRd w2 u2 mac := hK (2, u2) (by simp) (by kernel_rfl)
      have h6 : BRd w2 u6 (b ++ H) := hK (6, u6) (by simp) (by kernel_rfl)
      go_wp2_with fail
      refine (rtag_ok _ _ mac (b ++ H) _ h2 h6 (by rw [List.length_append]; omega) HM.out).mono ?_
      rintro e w3 ⟨v3, rfl, ho3, hk3⟩
      rw [HT.out] at ho3
      go_wp2
      exact ⟨_, rfl, ⟨_, rfl, ho3.bat.low⟩, hk3⟩
    refine ⟨_, rfl, fun w2 hk2 hK => ?_, fun u8 => ?_⟩
    rotate_left 1
    simp only [dstOf, Act.put, List.getElem?_toArray, List.getElem?_cons_succ, List.getElem?_cons_zero, Option.bind_some, List.setIfInBounds_toArray, List.set_cons_zero, List.set_cons_succ, List.nil_append, List.cons_append]
    rotate_left 1
    · have h7 : (rPair T).1 u7 w2 := hK (7, u7) (by simp) (by kernel_rfl)
      go_wp2
      exact ⟨_, rfl, h7, Keeps.refl _ _⟩
    refine ⟨_, rfl, fun w2 hk2 hK => ?_, fun u9 => ?_⟩
    rotate_left 1
    simp only [dstOf, Act.put, List.getElem?_toArray, List.getElem?_cons_succ, List.getElem?_cons_zero, Option.bind_some, List.setIfInBounds_toArray, List.set_cons_zero, List.set_cons_succ, List.nil_append, List.cons_append]
    rotate_left 1
    · have h8 : (rPair T).1 u8 w2 := hK (8, u8) (by simp) (by kernel_rfl)
      obtain ⟨v8, rfl, hb8⟩ := h8
      go_wp2
      exact ⟨_, rfl, hb8, Keeps.refl _ _⟩
    refine ⟨_, rfl, fun w2 hk2 hK => ?_, fun u10 => ?_⟩
    rotate_left 1
    simp only [dstOf, Act.put, List.getElem?_toArray, List.getElem?_cons_succ, List.getElem?_cons_zero, Option.bind_some, List.setIfInBounds_toArray, List.set_cons_zero, List.set_cons_succ, List.nil_append, List.cons_append]
    rotate_left 1
    · have h8 : (rPair T).1 u8 w2 := hK (8, u8) (by simp) (by kernel_rfl)
      obtain ⟨v8, rfl, hb8⟩ := h8
      go_wp2
      exact ⟨_, rfl, rfl, Keeps.refl _ _⟩
    refine ⟨_, rfl, fun w2 hk2 hK => ?_, fun u11 => ?_⟩
    rotate_left 1
    simp only [dstOf, Act.put, List.getElem?_toArray, List.getElem?_cons_succ, List.getElem?_cons_zero, Option.bind_some, List.setIfInBounds_toArray, List.set_cons_zero, List.set_cons_succ, List.nil_append, List.cons_append]
    rotate_left 1
    · have h9 : BRd w2 u9 T := hK (9, u9) (by simp) (by kernel_rfl)
      go_wp2
      exact ⟨_, rfl, h9, Keeps.refl _ _⟩
    refine ⟨_, rfl, fun w2 hk2 hK => ?_, fun u12 => ?_⟩
    rotate_left 1
    simp only [dstOf, Act.put, List.getElem?_toArray, List.getElem?_cons_succ, List.getElem?_cons_zero, Option.bind_some, List.setIfInBounds_toArray, List.set_cons_zero, List.set_cons_succ, List.nil_append, List.cons_append]
    rotate_left 1
    · obtain rfl : u10 = .int .i64 0 := hK (10, u10) (by simp) (by kernel_rfl)
      go_wp2
      exact ⟨_, rfl, rfl, Keeps.refl _ _⟩
    intro w3 hk3 hK
    have h11 : BRd w3 u11 T := hK (11, u11) (by simp)
    have tx := h11.text
    have HKF := Lib.hid (HK.out.trans (hkD.trans hk3 (fun _ _ h => h)) (fun _ _ h => h))
    clear h11 hK hk3 hkD
    go_wp2
    go_ret
    exact ⟨rfl, HKF.out⟩
  | false =>
    obtain ⟨H, hH⟩ : ∃ H : List UInt8, H = [] := ⟨_, rfl⟩
    rw [if_neg (by decide), ← hH] at hT
    have HI2 := Lib.hid (show BRd w1 (.slice none 0 0) H by rw [hH]; exact BRd.nil_ w1)
    have hH5 : H.length ≤ 4 := by rw [hH]; decide
    have HT := Lib.hid hT
    clear hT hH hH4
    go_wp2
    refine region_T [] (fun _ => True) (by kernel_rfl) ?_
    have hC : (fun _ : World => True) w1.drew := trivial
    have hkD : Keeps (fun _ => False) w1 w1.drew := (Keeps.refl _ _).drew
    refine anyT_take0 (i := 0) (v := ?_) rfl (by kernel_rfl) (by kernel_rfl) (by kernel_rfl) (by kernel_rfl) (by kernel_rfl) (fun _ _ _ h => h) hC (.inl ⟨by rfl, fun _ _ => ?_⟩) ?_
    rotate_left 1
    · go_simp
      try with_reducible rfl
    simp only [Act.put, List.getElem_toArray, List.getElem_cons_succ, List.getElem_cons_zero, List.setIfInBounds_toArray, List.set_cons_zero, List.set_cons_succ]
    refine anyT_take0 (i := 3) (v := ?_) rfl (by kernel_rfl) (by kernel_rfl) (by kernel_rfl) (by kernel_rfl) (by kernel_rfl) (fun _ _ _ h => h) hC (.inl ⟨by rfl, fun _ _ => ?_⟩) ?_
    rotate_left 1
    · go_simp
      try with_reducible rfl
    simp only [Act.put, List.getElem_toArray, List.getElem_cons_succ, List.getElem_cons_zero, List.setIfInBounds_toArray, List.set_cons_zero, List.set_cons_succ]
    refine anyT_take0 (i := 4) (v := ?_) rfl (by kernel_rfl) (by kernel_rfl) (by kernel_rfl) (by kernel_rfl) (by kernel_rfl) (fun _ _ _ h => h) hC (.inl ⟨by rfl, fun _ _ => ?_⟩) ?_
    rotate_left 1
    · go_simp
      try with_reducible rfl
    simp only [Act.put, List.getElem_toArray, List.getElem_cons_succ, List.getElem_cons_zero, List.setIfInBounds_toArray, List.set_cons_zero, List.set_cons_succ]
    refine anyT_par [(1, rEq (.string ⟨mac.toArray⟩)), (2, rBytes mac), (5, rRows [b, H]), (6, rBytes (b ++ H)), (7, rPair T), (8, rPair T), (9, rBytes T), (10, rEq (.int .i64 0)), (11, rBytes T), (12, rEq (.int .i64 0))] _ [1, 2, 5, 6, 7, 8, 9, 10, 11, 12] (fun _ => trivial) (by kernel_rfl) rfl (by kernel_rfl) rfl ?_
    refine ⟨_, rfl, fun w2 hk2 hK => ?_, fun u1 => ?_⟩
    rotate_left 1
    simp only [dstOf, Act.put, List.getElem?_toArray, List.getElem?_cons_succ, List.getElem?_cons_zero, Option.bind_some, List.setIfInBounds_toArray, List.set_cons_zero, List.set_cons_succ, List.nil_append, List.cons_append]
    rotate_left 1
    · have e1 := (hkD.trans hk2 (fun _ _ h => h)).cell c3 (fun h => h)
      go_wp2
      exact ⟨_, rfl, rfl, Keeps.refl _ _⟩
    refine ⟨_, rfl, fun w2 hk2 hK => ?_, fun u2 => ?_⟩
    rotate_left 1
    simp only [dstOf, Act.put, List.getElem?_toArray, List.getElem?_cons_succ, List.getElem?_cons_zero, Option.bind_some, List.setIfInBounds_toArray, List.set_cons_zero, List.set_cons_succ, List.nil_append, List.cons_append]
    rotate_left 1
    · obtain rfl : u1 = .string ⟨mac.toArray⟩ := hK (1, u1) (by simp) (by kernel_rfl)
      obtain ⟨kc, w4, hcv, hb4, hk4⟩ := conv_low _ mac (by rw [HM.out]; decide)
      go_wp2_with fail
      rw [hcv]
      go_wp2
      exact ⟨_, rfl, hb4, hk4⟩
    refine ⟨_, rfl, fun w2 hk2 hK => ?_, fun u5 => ?_⟩
    rotate_left 1
    simp only [dstOf, Act.put, List.getElem?_toArray, List.getElem?_cons_succ, List.getElem?_cons_zero, Option.bind_some, List.setIfInBounds_toArray, List.set_cons_zero, List.set_cons_succ, List.nil_append, List.cons_append]
    rotate_left 1
    · have hke := hkD.trans hk2 (fun _ _ h => h)
      have hpair := (BBAt.pair (T := 25) (HB.out.keeps (HK.out.trans hke (fun _ _ h => h))) (BRd.keeps HI2.out hke)).low
      go_wp2
      exact ⟨_, rfl, hpair, (Keeps.refl _ _).alloc _⟩
    refine ⟨_, rfl, fun w2 hk2 hK => ?_, fun u6 => ?_⟩
    rotate_left 1
    simp only [dstOf, Act.put, List.getElem?_toArray, List.getElem?_cons_succ, List.getElem?_cons_zero, Option.bind_some, List.setIfInBounds_toArray, List.set_cons_zero, List.set_cons_succ, List.nil_append, List.cons_append]
    rotate_left 1
    · have h5 : BBRd w2 u5 [b, H] := hK (5, u5) (by simp) (by kernel_rfl)
      go_wp2_with fail
      refine (both_any _ [b, H] _ h5 (by simp only [List.flatten_cons, List.flatten_nil, List.append_nil, List.length_append]; omega)).mono ?_
      rintro e w3 ⟨v3, rfl, ho3, hk3⟩
      rw [show [b, H].flatten = b ++ H by simp] at ho3
      go_wp2
      exact ⟨_, rfl, ho3.bat.low, hk3⟩
    refine ⟨_, rfl, fun w2 hk2 hK => ?_, fun u7 => ?_⟩
    rotate_left 1
    simp only [dstOf, Act.put, List.getElem?_toArray, List.getElem?_cons_succ, List.getElem?_cons_zero, Option.bind_some, List.setIfInBounds_toArray, List.set_cons_zero, List.set_cons_succ, List.nil_append, List.cons_append]
    rotate_left 1
    · have h2 : BRd w2 u2 mac := hK (2, u2) (by simp) (by kernel_rfl)
      have h6 : BRd w2 u6 (b ++ H) := hK (6, u6) (by simp) (by kernel_rfl)
      go_wp2_with fail
      refine (rtag_ok _ _ mac (b ++ H) _ h2 h6 (by rw [List.length_append]; omega) HM.out).mono ?_
      rintro e w3 ⟨v3, rfl, ho3, hk3⟩
      rw [HT.out] at ho3
      go_wp2
      exact ⟨_, rfl, ⟨_, rfl, ho3.bat.low⟩, hk3⟩
    refine ⟨_, rfl, fun w2 hk2 hK => ?_, fun u8 => ?_⟩
    rotate_left 1
    simp only [dstOf, Act.put, List.getElem?_toArray, List.getElem?_cons_succ, List.getElem?_cons_zero, Option.bind_some, List.setIfInBounds_toArray, List.set_cons_zero, List.set_cons_succ, List.nil_append, List.cons_append]
    rotate_left 1
    · have h7 : (rPair T).1 u7 w2 := hK (7, u7) (by simp) (by kernel_rfl)
      go_wp2
      exact ⟨_, rfl, h7, Keeps.refl _ _⟩
    refine ⟨_, rfl, fun w2 hk2 hK => ?_, fun u9 => ?_⟩
    rotate_left 1
    simp only [dstOf, Act.put, List.getElem?_toArray, List.getElem?_cons_succ, List.getElem?_cons_zero, Option.bind_some, List.setIfInBounds_toArray, List.set_cons_zero, List.set_cons_succ, List.nil_append, List.cons_append]
    rotate_left 1
    · have h8 : (rPair T).1 u8 w2 := hK (8, u8) (by simp) (by kernel_rfl)
      obtain ⟨v8, rfl, hb8⟩ := h8
      go_wp2
      exact ⟨_, rfl, hb8, Keeps.refl _ _⟩
    refine ⟨_, rfl, fun w2 hk2 hK => ?_, fun u10 => ?_⟩
    rotate_left 1
    simp only [dstOf, Act.put, List.getElem?_toArray, List.getElem?_cons_succ, List.getElem?_cons_zero, Option.bind_some, List.setIfInBounds_toArray, List.set_cons_zero, List.set_cons_succ, List.nil_append, List.cons_append]
    rotate_left 1
    · have h8 : (rPair T).1 u8 w2 := hK (8, u8) (by simp) (by kernel_rfl)
      obtain ⟨v8, rfl, hb8⟩ := h8
      go_wp2
      exact ⟨_, rfl, rfl, Keeps.refl _ _⟩
    refine ⟨_, rfl, fun w2 hk2 hK => ?_, fun u11 => ?_⟩
    rotate_left 1
    simp only [dstOf, Act.put, List.getElem?_toArray, List.getElem?_cons_succ, List.getElem?_cons_zero, Option.bind_some, List.setIfInBounds_toArray, List.set_cons_zero, List.set_cons_succ, List.nil_append, List.cons_append]
    rotate_left 1
    · have h9 : BRd w2 u9 T := hK (9, u9) (by simp) (by kernel_rfl)
      go_wp2
      exact ⟨_, rfl, h9, Keeps.refl _ _⟩
    refine ⟨_, rfl, fun w2 hk2 hK => ?_, fun u12 => ?_⟩
    rotate_left 1
    simp only [dstOf, Act.put, List.getElem?_toArray, List.getElem?_cons_succ, List.getElem?_cons_zero, Option.bind_some, List.setIfInBounds_toArray, List.set_cons_zero, List.set_cons_succ, List.nil_append, List.cons_append]
    rotate_left 1
    · obtain rfl : u10 = .int .i64 0 := hK (10, u10) (by simp) (by kernel_rfl)
      go_wp2
      exact ⟨_, rfl, rfl, Keeps.refl _ _⟩
    intro w3 hk3 hK
    have h11 : BRd w3 u11 T := hK (11, u11) (by simp)
    have tx := h11.text
    have HKF := Lib.hid (HK.out.trans (hkD.trans hk3 (fun _ _ h => h)) (fun _ _ h => h))
    clear h11 hK hk3 hkD
    go_wp2
    go_ret
    exact ⟨rfl, HKF.out⟩
end Go.Proofs.YtekaoknpjpbjgaaDoor

/-! The reference of layer 14: Seal. -/
namespace Go.Proofs.YtekaoknpjpbjgaaDoor
set_option linter.unusedVariables false
set_option linter.unusedSimpArgs false
open Go.RowKit

set_option maxRecDepth 100000 in
set_option maxHeartbeats 1000000 in
theorem rseal_bad (sa : SaV) (seq : Nat) (dv : Value) (next : Int) (w : World) (hsz : SizedSa sa) (h : okN sa seq = false ∨ next < 0 ∨ 255 < next) :
    Calls Tryd.prog 12 #[.agg (saC sa), .int .u64 seq, dv, .int .i64 next] w fun e w' => e = .returned (.tuple #[.slice none 0 0, .int .i64 1]) ∧ Keeps (fun _ => False) w w' := by
  have hka := (Keeps.refl (fun _ => False) w).alloc (.cells (saC sa) 23)
  have hra := RowAt.new w (saC sa) 23
  have HMY := Lib.hid (fun w => rmay14_any sa w hsz)
  have HNM := Lib.hid (fun w => rnumber_any sa seq w)
  have hokn := okN_num sa seq
  rw [hokn] at h
  generalize mayS sa = mb at *
  generalize numS sa seq = nb at *
  obtain ⟨spi, key, salt, mac, esn, window⟩ := sa
  unfold saC at hka hra HMY HNM ⊢
  simp only at hka hra HMY HNM ⊢
  have HKA := Lib.hid hka
  have HRA := Lib.hid hra
  clear hka hra hsz hokn
  cases mb with
  | false =>
    clear h
    go_enter Tryd.func12, Tryd.ntmps12
    go_wp2_with fail
    refine (HMY.out _).mono ?_
    rintro e w1 ⟨rfl, hk1⟩
    have HK1 := Lib.hid (HKA.out.trans hk1 (fun _ _ h => h))
    have HR1 := Lib.hid (HRA.out.keeps hk1 (fun h => h))
    clear hk1
    go_wp2
    go_ret2
    exact ⟨rfl, HK1.out⟩
  | true =>
    cases nb with
    | false =>
      clear h
      go_enter Tryd.func12, Tryd.ntmps12
      go_wp2_with fail
      refine (HMY.out _).mono ?_
      rintro e w1 ⟨rfl, hk1⟩
      have HK1 := Lib.hid (HKA.out.trans hk1 (fun _ _ h => h))
      have HR1 := Lib.hid (HRA.out.keeps hk1 (fun h => h))
      clear hk1
      have d0 := (HR1.out).cell 0
      have d1 := (HR1.out).cell 1
      have d2 := (HR1.out).cell 2
      have d3 := (HR1.out).cell 3
      have d4 := (HR1.out).cell 4
      have d5 := (HR1.out).cell 5
      go_wp2_with fail
      refine (HNM.out _).mono ?_
      rintro e w2 ⟨rfl, hk2⟩
      have HK2 := Lib.hid (HK1.out.trans hk2 (fun _ _ h => h))
      have HR2 := Lib.hid (HR1.out.keeps hk2 (fun h => h))
      clear hk2 d0 d1 d2 d3 d4 d5
      go_wp2
      go_ret2
      exact ⟨rfl, HK2.out⟩
    | true =>
      have h2 : next < 0 ∨ (0 ≤ next ∧ 255 < next) := by
        rcases h with h | h | h
        · cases h
        · exact .inl h
        · exact .inr ⟨by omega, h⟩
      clear h
      rcases h2 with h2 | ⟨h2, h3⟩
      · go_enter Tryd.func12, Tryd.ntmps12
        go_wp2_with fail
        refine (HMY.out _).mono ?_
        rintro e w1 ⟨rfl, hk1⟩
        have HK1 := Lib.hid (HKA.out.trans hk1 (fun _ _ h => h))
        have HR1 := Lib.hid (HRA.out.keeps hk1 (fun h => h))
        clear hk1
        have d0 := (HR1.out).cell 0
        have d1 := (HR1.out).cell 1
        have d2 := (HR1.out).cell 2
        have d3 := (HR1.out).cell 3
        have d4 := (HR1.out).cell 4
        have d5 := (HR1.out).cell 5
        go_wp2_with fail
        refine (HNM.out _).mono ?_
        rintro e w2 ⟨rfl, hk2⟩
        have HK2 := Lib.hid (HK1.out.trans hk2 (fun _ _ h => h))
        have HR2 := Lib.hid (HR1.out.keeps hk2 (fun h => h))
        clear hk2 d0 d1 d2 d3 d4 d5
        go_wp2
        go_ret2
        exact ⟨rfl, HK2.out⟩
      · go_enter Tryd.func12, Tryd.ntmps12
        go_wp2_with fail
        refine (HMY.out _).mono ?_
        rintro e w1 ⟨rfl, hk1⟩
        have HK1 := Lib.hid (HKA.out.trans hk1 (fun _ _ h => h))
        have HR1 := Lib.hid (HRA.out.keeps hk1 (fun h => h))
        clear hk1
        have d0 := (HR1.out).cell 0
        have d1 := (HR1.out).cell 1
        have d2 := (HR1.out).cell 2
        have d3 := (HR1.out).cell 3
        have d4 := (HR1.out).cell 4
        have d5 := (HR1.out).cell 5
        go_wp2_with fail
        refine (HNM.out _).mono ?_
        rintro e w2 ⟨rfl, hk2⟩
        have HK2 := Lib.hid (HK1.out.trans hk2 (fun _ _ h => h))
        have HR2 := Lib.hid (HR1.out.keeps hk2 (fun h => h))
        clear hk2 d0 d1 d2 d3 d4 d5
        go_wp2
        go_ret2
        exact ⟨rfl, HK2.out⟩
set_option maxRecDepth 100000 in
set_option maxHeartbeats 1000000 in
theorem rseal_long (sa : SaV) (seq : Nat) (dv : Value) (data : List UInt8) (next : Int) (w : World) (hsz : SizedSa sa) (hd : BRd w dv data) (h : okN sa seq = true) (hn : 0 ≤ next ∧ next ≤ 255) (hl : 65535 < lenS data.length) (hm : data.length ≤ 1000000000) :
    Calls Tryd.prog 12 #[.agg (saC sa), .int .u64 seq, dv, .int .i64 next] w fun e w' => e = .returned (.tuple #[.slice none 0 0, .int .i64 2]) ∧ Keeps (fun _ => False) w w' := by
  have hka := (Keeps.refl (fun _ => False) w).alloc (.cells (saC sa) 23)
  have hra := RowAt.new w (saC sa) 23
  have HMY := Lib.hid (fun w => rmay14_any sa w hsz)
  have HNM := Lib.hid (fun w => rnumber_any sa seq w)
  have hokn := okN_num sa seq
  have HL := Lib.hid (fun w => rlen14_any data.length w hm)
  obtain ⟨da, dc, rfl, -, -⟩ := hd.slice
  rw [h] at hokn
  have hl' : (65535 : Int) < (lenS data.length : Nat) := by omega
  obtain ⟨hm1, hm2⟩ : mayS sa = true ∧ numS sa seq = true := by simpa using hokn.symm
  rw [hm1] at HMY
  rw [hm2] at HNM
  generalize lenS data.length = N at *
  obtain ⟨hn1, hn2⟩ := hn
  obtain ⟨spi, key, salt, mac, esn, window⟩ := sa
  unfold saC at hka hra HMY HNM ⊢
  simp only at hka hra HMY HNM ⊢
  have HKA := Lib.hid hka
  have HRA := Lib.hid hra
  clear hka hra hsz hokn hd h hm1 hm2 hl hm
  go_enter Tryd.func12, Tryd.ntmps12
  go_wp2_with fail
  refine (HMY.out _).mono ?_
  rintro e w1 ⟨rfl, hk1⟩
  have HK1 := Lib.hid (HKA.out.trans hk1 (fun _ _ h => h))
  have HR1 := Lib.hid (HRA.out.keeps hk1 (fun h => h))
  clear hk1
  have d0 := (HR1.out).cell 0
  have d1 := (HR1.out).cell 1
  have d2 := (HR1.out).cell 2
  have d3 := (HR1.out).cell 3
  have d4 := (HR1.out).cell 4
  have d5 := (HR1.out).cell 5
  go_wp2_with fail
  refine (HNM.out _).mono ?_
  rintro e w2 ⟨rfl, hk2⟩
  have HK2 := Lib.hid (HK1.out.trans hk2 (fun _ _ h => h))
  have HR2 := Lib.hid (HR1.out.keeps hk2 (fun h => h))
  clear hk2 d0 d1 d2 d3 d4 d5
  go_wp2_with fail
  refine (HL.out _).mono ?_
  rintro e w3 ⟨rfl, rfl⟩
  go_wp2
  go_ret2
  exact ⟨rfl, HK2.out⟩
end Go.Proofs.YtekaoknpjpbjgaaDoor
