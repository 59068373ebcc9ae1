/- The law MacLong. -/
import Derived.Test.YtkcnllbfinjaiaaDoorAwake
import Derived.Test.YtkcnllbfinjaiaaDoorParB
namespace Go.Proofs.YtkcnllbfinjaiaaDoor
open Go.RowKit

theorem hmac_long (key m : List UInt8) (h : 64 < key.length) : hmac (sha key) m = hmac key m := by
  have e : keyOf (sha key) = keyOf key := by
    unfold keyOf
    rw [if_pos h, if_neg (by rw [sha_len]; omega)]
  unfold hmac padK
  rw [e]

set_option maxRecDepth 100000 in
set_option maxHeartbeats 2000000 in
theorem long_any (kv bv : Value) (key b : List UInt8) (w : World) (hk : BRd w kv key) (hb : BRd w bv b) (hT : Table w) :
    Calls Tryd.prog 4 #[kv, bv] w fun e w' => e = .returned (.bool true) ∧ Keeps (fun _ => False) w w' := by
  obtain ⟨ka, kc, rfl, hkc, hkm⟩ := hk.slice
  obtain ⟨ba, bc, rfl, hbc, hbm⟩ := hb.slice
  simp only [maxLen] at hkm hbm
  go_enter Tryd.func4, Tryd.ntmps4
  by_cases h1 : key.length ≤ 64
  · have h1' : (key.length : Int) ≤ 64 := by omega
    go_wp2_with (go_at_call 9; refine (awake_any _ hT).mono ?_; rintro e w6 ⟨rfl, hk6⟩)
    go_ret
    exact ⟨rfl, hk6⟩
  · have h1' : (64 : Int) < key.length := by omega
    by_cases h2 : 300 < key.length
    · have h2' : (300 : Int) < key.length := by omega
      go_wp2_with (go_at_call 9; refine (awake_any _ hT).mono ?_; rintro e w6 ⟨rfl, hk6⟩)
      go_ret
      exact ⟨rfl, hk6⟩
    · have h2' : (key.length : Int) ≤ 300 := by omega
      by_cases h3 : 300 < b.length
      · have h3' : (300 : Int) < b.length := by omega
        go_wp2_with (go_at_call 9; refine (awake_any _ hT).mono ?_; rintro e w6 ⟨rfl, hk6⟩)
        go_ret
        exact ⟨rfl, hk6⟩
      · have h3' : (b.length : Int) ≤ 300 := by omega
        go_wp2_with fail
        refine region_T [] (fun _ => True) (by kernel_rfl) ?_
        have hC : (fun _ : World => True) w.drew := trivial
        refine anyT_force (i := 0) rfl (by kernel_rfl) (by rfl) ?_
        go_simp
        refine (awake_any _ (hT.keeps ((Keeps.refl (fun _ => False) _).drew))).mono ?_
        rintro e w1 ⟨rfl, hk1⟩
        have hkA : Keeps (fun _ => False) w w1 := ((Keeps.refl (fun _ => False) _).drew).trans hk1 (fun _ _ h => h)
        have hC : (fun _ : World => True) w1 := trivial
        refine anyT_take0 (i := 1) (v := ?_) rfl (by kernel_rfl) (by kernel_rfl) (by kernel_rfl) (by kernel_rfl) (by kernel_rfl) (fun _ _ _ h => h) hC (.inl ⟨by rfl, fun _ _ => ?_⟩) ?_
        rotate_left 1
        · go_simp
          try with_reducible rfl
        simp only [Act.put, List.getElem_toArray, List.getElem_cons_succ, List.getElem_cons_zero, List.setIfInBounds_toArray, List.set_cons_zero, List.set_cons_succ]
        refine anyT_take0 (i := 2) (v := ?_) rfl (by kernel_rfl) (by kernel_rfl) (by kernel_rfl) (by kernel_rfl) (by kernel_rfl) (fun _ _ _ h => h) hC (.inl ⟨by rfl, fun _ _ => ?_⟩) ?_
        rotate_left 1
        · go_simp
          try with_reducible rfl
        simp only [Act.put, List.getElem_toArray, List.getElem_cons_succ, List.getElem_cons_zero, List.setIfInBounds_toArray, List.set_cons_zero, List.set_cons_succ]
        refine anyT_take0 (i := 3) (v := ?_) rfl (by kernel_rfl) (by kernel_rfl) (by kernel_rfl) (by kernel_rfl) (by kernel_rfl) (fun _ _ _ h => h) hC (.inl ⟨by rfl, fun _ _ => ?_⟩) ?_
        rotate_left 1
        · go_simp
          try with_reducible rfl
        simp only [Act.put, List.getElem_toArray, List.getElem_cons_succ, List.getElem_cons_zero, List.setIfInBounds_toArray, List.set_cons_zero, List.set_cons_succ]
        refine anyT_take0 (i := 7) (v := ?_) rfl (by kernel_rfl) (by kernel_rfl) (by kernel_rfl) (by kernel_rfl) (by kernel_rfl) (fun _ _ _ h => h) hC (.inl ⟨by rfl, fun _ _ => ?_⟩) ?_
        rotate_left 1
        · go_simp
          try with_reducible rfl
        simp only [Act.put, List.getElem_toArray, List.getElem_cons_succ, List.getElem_cons_zero, List.setIfInBounds_toArray, List.set_cons_zero, List.set_cons_succ]
        refine anyT_take0 (i := 10) (v := ?_) rfl (by kernel_rfl) (by kernel_rfl) (by kernel_rfl) (by kernel_rfl) (by kernel_rfl) (fun _ _ _ h => h) hC (.inl ⟨by rfl, fun _ _ => ?_⟩) ?_
        rotate_left 1
        · go_simp
          try with_reducible rfl
        simp only [Act.put, List.getElem_toArray, List.getElem_cons_succ, List.getElem_cons_zero, List.setIfInBounds_toArray, List.set_cons_zero, List.set_cons_succ]
        refine anyT_par [(4, rRows [b]), (5, rBytes (hmac key b)), (6, rEq (.string ⟨(hmac key b).toArray⟩)), (8, rRows [key]), (9, rBytes (sha key)), (11, rRows [b]), (12, rBytes (hmac key b)), (13, rEq (.string ⟨(hmac key b).toArray⟩)), (14, rEq (.bool true)), (15, rEq (.bool true)), (16, rEq (.bool true))] _ [4, 5, 6, 8, 9, 11, 12, 13, 14, 15, 16] (fun _ => trivial) (by kernel_rfl) rfl (by kernel_rfl) rfl ?_
        refine ⟨_, rfl, fun w2 hk2 hK => ?_, fun u4 => ?_⟩
        rotate_left 1
        simp only [dstOf, Act.put, List.getElem?_toArray, List.getElem?_cons_succ, List.getElem?_cons_zero, Option.bind_some, List.setIfInBounds_toArray, List.set_cons_zero, List.set_cons_succ, List.nil_append, List.cons_append]
        rotate_left 1
        · go_wp2
          exact ⟨_, rfl, (BBAt.one (T := 22) (hb.keeps (hkA.trans hk2 (fun _ _ h => h)))).low, (Keeps.refl _ _).alloc _⟩
        refine ⟨_, rfl, fun w2 hk2 hK => ?_, fun u5 => ?_⟩
        rotate_left 1
        simp only [dstOf, Act.put, List.getElem?_toArray, List.getElem?_cons_succ, List.getElem?_cons_zero, Option.bind_some, List.setIfInBounds_toArray, List.set_cons_zero, List.set_cons_succ, List.nil_append, List.cons_append]
        rotate_left 1
        · have h4 : BBRd w2 u4 [b] := hK (4, u4) (by simp) (by kernel_rfl)
          go_wp2_with fail
          refine (full_any _ _ key [b] _ (hk.keeps (hkA.trans hk2 (fun _ _ h => h))) h4 (by simp) (by omega) (by simp) (by simp; omega) (hT.keeps (hkA.trans hk2 (fun _ _ h => h)))).mono ?_
          rintro e w3 ⟨v3, rfl, ho3, hk3⟩
          rw [show [b].flatten = b by simp] at ho3
          go_wp2
          exact ⟨_, rfl, ho3.bat.low, hk3⟩
        refine ⟨_, rfl, fun w2 hk2 hK => ?_, fun u6 => ?_⟩
        rotate_left 1
        simp only [dstOf, Act.put, List.getElem?_toArray, List.getElem?_cons_succ, List.getElem?_cons_zero, Option.bind_some, List.setIfInBounds_toArray, List.set_cons_zero, List.set_cons_succ, List.nil_append, List.cons_append]
        rotate_left 1
        · have h5 : BRd w2 u5 (hmac key b) := hK (5, u5) (by simp) (by kernel_rfl)
          have hTX := h5.text
          go_wp2_with fail
          exact ⟨_, rfl, rfl, Keeps.refl _ _⟩
        refine ⟨_, rfl, fun w2 hk2 hK => ?_, fun u8 => ?_⟩
        rotate_left 1
        simp only [dstOf, Act.put, List.getElem?_toArray, List.getElem?_cons_succ, List.getElem?_cons_zero, Option.bind_some, List.setIfInBounds_toArray, List.set_cons_zero, List.set_cons_succ, List.nil_append, List.cons_append]
        rotate_left 1
        · go_wp2
          exact ⟨_, rfl, (BBAt.one (T := 22) (hk.keeps (hkA.trans hk2 (fun _ _ h => h)))).low, (Keeps.refl _ _).alloc _⟩
        refine ⟨_, rfl, fun w2 hk2 hK => ?_, fun u9 => ?_⟩
        rotate_left 1
        simp only [dstOf, Act.put, List.getElem?_toArray, List.getElem?_cons_succ, List.getElem?_cons_zero, Option.bind_some, List.setIfInBounds_toArray, List.set_cons_zero, List.set_cons_succ, List.nil_append, List.cons_append]
        rotate_left 1
        · have h8 : BBRd w2 u8 [key] := hK (8, u8) (by simp) (by kernel_rfl)
          go_wp2_with fail
          refine (of_any _ [key] _ h8 (by simp; omega) (hT.keeps (hkA.trans hk2 (fun _ _ h => h)))).mono ?_
          rintro e w3 ⟨v3, rfl, ho3, hk3⟩
          rw [show [key].flatten = key by simp] at ho3
          go_wp2
          exact ⟨_, rfl, ho3.bat.low, hk3⟩
        refine ⟨_, rfl, fun w2 hk2 hK => ?_, fun u11 => ?_⟩
        rotate_left 1
        simp only [dstOf, Act.put, List.getElem?_toArray, List.getElem?_cons_succ, List.getElem?_cons_zero, Option.bind_some, List.setIfInBounds_toArray, List.set_cons_zero, List.set_cons_succ, List.nil_append, List.cons_append]
        rotate_left 1
        · go_wp2
          exact ⟨_, rfl, (BBAt.one (T := 22) (hb.keeps (hkA.trans hk2 (fun _ _ h => h)))).low, (Keeps.refl _ _).alloc _⟩
        refine ⟨_, rfl, fun w2 hk2 hK => ?_, fun u12 => ?_⟩
        rotate_left 1
        simp only [dstOf, Act.put, List.getElem?_toArray, List.getElem?_cons_succ, List.getElem?_cons_zero, Option.bind_some, List.setIfInBounds_toArray, List.set_cons_zero, List.set_cons_succ, List.nil_append, List.cons_append]
        rotate_left 1
        · have h11 : BBRd w2 u11 [b] := hK (11, u11) (by simp) (by kernel_rfl)
          have h9 : BRd w2 u9 (sha key) := hK (9, u9) (by simp) (by kernel_rfl)
          go_wp2_with fail
          refine (full_any _ _ (sha key) [b] _ h9 h11 (by simp) (by rw [sha_len]; omega) (by simp) (by simp; omega) (hT.keeps (hkA.trans hk2 (fun _ _ h => h)))).mono ?_
          rintro e w3 ⟨v3, rfl, ho3, hk3⟩
          rw [show [b].flatten = b by simp, hmac_long key b (by omega)] at ho3
          go_wp2
          exact ⟨_, rfl, ho3.bat.low, hk3⟩
        refine ⟨_, rfl, fun w2 hk2 hK => ?_, fun u13 => ?_⟩
        rotate_left 1
        simp only [dstOf, Act.put, List.getElem?_toArray, List.getElem?_cons_succ, List.getElem?_cons_zero, Option.bind_some, List.setIfInBounds_toArray, List.set_cons_zero, List.set_cons_succ, List.nil_append, List.cons_append]
        rotate_left 1
        · have h12 : BRd w2 u12 (hmac key b) := hK (12, u12) (by simp) (by kernel_rfl)
          have hTX := h12.text
          go_wp2_with fail
          exact ⟨_, rfl, rfl, Keeps.refl _ _⟩
        refine ⟨_, rfl, fun w2 hk2 hK => ?_, fun u14 => ?_⟩
        rotate_left 1
        simp only [dstOf, Act.put, List.getElem?_toArray, List.getElem?_cons_succ, List.getElem?_cons_zero, Option.bind_some, List.setIfInBounds_toArray, List.set_cons_zero, List.set_cons_succ, List.nil_append, List.cons_append]
        rotate_left 1
        · obtain rfl : u6 = .string ⟨(hmac key b).toArray⟩ := hK (6, u6) (by simp) (by kernel_rfl)
          obtain rfl : u13 = .string ⟨(hmac key b).toArray⟩ := hK (13, u13) (by simp) (by kernel_rfl)
          go_wp2_with fail
          exact ⟨_, rfl, rfl, Keeps.refl _ _⟩
        refine ⟨_, rfl, fun w2 hk2 hK => ?_, fun u15 => ?_⟩
        rotate_left 1
        simp only [dstOf, Act.put, List.getElem?_toArray, List.getElem?_cons_succ, List.getElem?_cons_zero, Option.bind_some, List.setIfInBounds_toArray, List.set_cons_zero, List.set_cons_succ, List.nil_append, List.cons_append]
        rotate_left 1
        · obtain rfl : u14 = .bool true := hK (14, u14) (by simp) (by kernel_rfl)
          go_wp2_with fail
          exact ⟨_, rfl, rfl, Keeps.refl _ _⟩
        refine ⟨_, rfl, fun w2 hk2 hK => ?_, fun u16 => ?_⟩
        rotate_left 1
        simp only [dstOf, Act.put, List.getElem?_toArray, List.getElem?_cons_succ, List.getElem?_cons_zero, Option.bind_some, List.setIfInBounds_toArray, List.set_cons_zero, List.set_cons_succ, List.nil_append, List.cons_append]
        rotate_left 1
        · obtain rfl : u15 = .bool true := hK (15, u15) (by simp) (by kernel_rfl)
          go_wp2_with fail
          exact ⟨_, rfl, rfl, Keeps.refl _ _⟩
        intro w2 hk2 hK
        obtain rfl : u16 = .bool true := hK (16, u16) (by simp)
        go_wp2
        go_ret
        exact ⟨rfl, hkA.trans hk2 (fun _ _ h => h)⟩

theorem long_row (kv : Value) (key : List UInt8) (bv : Value) (b : List UInt8) (w : World) (hk : BAt w (· < w.heap.size) kv key) (hb : BAt w (· < w.heap.size) bv b) (hT : Table w) :
    Calls Tryd.prog 4 #[kv, bv] w fun e w' => e = .returned (.bool true) ∧ Keeps (fun _ => False) w w' := long_any kv bv key b w hk hb hT
end Go.Proofs.YtkcnllbfinjaiaaDoor
