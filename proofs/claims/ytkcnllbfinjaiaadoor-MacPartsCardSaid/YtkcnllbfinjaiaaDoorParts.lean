/- The law MacParts. -/
import Derived.Test.YtkcnllbfinjaiaaDoorTag
namespace Go.Proofs.YtkcnllbfinjaiaaDoor
open Go.RowKit



set_option maxRecDepth 100000 in
set_option maxHeartbeats 4000000 in
theorem parts_any (kv av bv cv : Value) (key a b c : List UInt8) (more : Int) (w : World) (hk : BRd w kv key) (ha : BRd w av a) (hb : BRd w bv b) (hc : BRd w cv c) (hT : Table w) :
    Calls Tryd.prog 6 #[kv, av, bv, cv, .int .i64 more] w fun e w' => e = .returned (.bool true) ∧ Keeps (fun _ => False) w w' := by
  obtain ⟨ka, kc, rfl, hkc, hkm⟩ := hk.slice
  obtain ⟨aa, ac, rfl, hac, ham⟩ := ha.slice
  obtain ⟨ba, bc, rfl, hbc, hbm⟩ := hb.slice
  obtain ⟨ca, cc, rfl, hcc, hcm⟩ := hc.slice
  simp only [maxLen] at hkm ham hbm hcm
  go_enter Tryd.func6, Tryd.ntmps6
  by_cases h1 : (300 : Int) < key.length
  · go_wp2
    go_ret
    exact ⟨rfl, Keeps.refl _ _⟩
  by_cases h2 : (300 : Int) < a.length
  · go_wp2
    go_ret
    exact ⟨rfl, Keeps.refl _ _⟩
  by_cases h3 : (300 : Int) < b.length
  · go_wp2
    go_ret
    exact ⟨rfl, Keeps.refl _ _⟩
  by_cases h4 : (300 : Int) < c.length
  · go_wp2
    go_ret
    exact ⟨rfl, Keeps.refl _ _⟩
  by_cases h5 : more < 0
  · go_wp2
    go_ret
    exact ⟨rfl, Keeps.refl _ _⟩
  by_cases h6 : 64 < more
  · go_wp2
    go_ret
    exact ⟨rfl, Keeps.refl _ _⟩
  have h1' : (key.length : Int) ≤ 300 := by omega
  have h2' : (a.length : Int) ≤ 300 := by omega
  have h3' : (b.length : Int) ≤ 300 := by omega
  have h4' : (c.length : Int) ≤ 300 := by omega
  have h5' : 0 ≤ more := by omega
  have h6' : more ≤ 64 := by omega
  obtain ⟨M, hM⟩ : ∃ M, a ++ (b ++ c) = M := ⟨_, rfl⟩
  obtain ⟨N, hN⟩ : ∃ N, b ++ c = N := ⟨_, rfl⟩
  have hflM : [a, b, c].flatten = M := by rw [← hM]; simp
  have hflN : [b, c].flatten = N := by rw [← hN]; simp
  have hflQ : [a, N].flatten = M := by rw [← hM, ← hN]; simp
  have hfl' : M.length ≤ 900 := by rw [← hM]; simp; omega
  have hfl2 : N.length ≤ 600 := by rw [← hN]; simp; omega
  clear h1 h2 h3 h4 h5 h6 hM hN
  go_wp2_with fail
  refine (full_any _ _ key [a, b, c] _ (hk.keeps ((Keeps.refl _ w).alloc _)) (BBAt.three (T := 22) ha hb hc).low (by simp) (by omega) (by simp) (by rw [hflM]; omega) (hT.keeps ((Keeps.refl _ w).alloc _))).mono ?_
  rintro e w1 ⟨xv, rfl, hx1, hk1⟩
  rw [hflM] at hx1
  obtain ⟨xg, xo, xc, rfl, hxc, hxm, hxg⟩ := hx1.place (by rw [hmac_len]; omega)
  have hkA : Keeps (fun _ => False) w w1 := ((Keeps.refl _ w).alloc _).trans hk1 (fun _ _ h => h)
  have hF1 : BRd w1 (.slice (some ⟨xg, xo, none⟩) 16 xc) ((hmac key M).take 16) := (hx1.first 16 xc (by rw [hmac_len]; omega) (by rw [hmac_len] at hxc; omega) (Nat.le_refl _)).bat.low
  have hX1 : BRd w1 (.slice (some ⟨xg, xo, none⟩) (hmac key M).length xc) (hmac key M) := hx1.bat.low
  rw [hmac_len] at hxc hX1 ⊢
  simp only [maxLen] at hxm
  clear hk1 hx1 hxg
  go_wp2_with fail
  refine (both_any _ [a, b, c] _ (BBAt.three (T := 22) (ha.keeps hkA) (hb.keeps hkA) (hc.keeps hkA)).low (by rw [hflM]; omega)).mono ?_
  rintro e w2 ⟨yv, rfl, hy2, hk2⟩
  rw [hflM] at hy2
  have hY2 : BRd w2 yv M := hy2.bat.low
  obtain ⟨ya, yc, rfl, -, -⟩ := hY2.slice
  have hkB : Keeps (fun _ => False) w w2 := (hkA.alloc _).trans hk2 (fun _ _ h => h)
  have hjB : Keeps (fun _ => False) w1 w2 := ((Keeps.refl _ w1).alloc _).trans hk2 (fun _ _ h => h)
  clear hk2 hy2 hkA
  go_wp2_with fail
  refine (full_any _ _ key [M] _ (hk.keeps (hkB.alloc _)) (BBAt.one (T := 22) hY2).low (by simp) (by omega) (by simp) (by simp; omega) (hT.keeps (hkB.alloc _))).mono ?_
  rintro e w3 ⟨zv, rfl, hz3, hk3⟩
  rw [show [M].flatten = M by simp] at hz3
  have hZ3 : BRd w3 zv (hmac key M) := hz3.bat.low
  have hkC : Keeps (fun _ => False) w w3 := (hkB.alloc _).trans hk3 (fun _ _ h => h)
  have hjC : Keeps (fun _ => False) w1 w3 := (hjB.alloc _).trans hk3 (fun _ _ h => h)
  clear hk3 hz3 hkB hjB
  have hTX := (hX1.keeps hjC).text
  have hTZ := hZ3.text
  by_cases h64 : (key.length : Int) + more ≤ 64
  · obtain ⟨n, rfl⟩ : ∃ n : Nat, more = (n : Int) := ⟨more.toNat, by omega⟩
    go_wp2_with (at_make; (refine wpList_make_bytes rfl (.tmp 72) (.tmp 72) rfl w3.heap.size _ _ n n rfl rfl rfl rfl (Nat.le_refl _) (by omega) (Nat.le_refl _) (fun w4 h4 hk4 => ?_)))
    have hkD : Keeps (fun _ => False) w w4 := hkC.trans hk4 (fun _ _ h => h)
    have hjD : Keeps (fun _ => False) w1 w4 := hjC.trans hk4 (fun _ _ h => h)
    have hz4 : BRd w4 (.slice (some ⟨w3.heap.size, 0, none⟩) n n) (List.replicate n 0) := h4.bat.low
    obtain ⟨K2, hK2⟩ : ∃ K2, key ++ List.replicate n 0 = K2 := ⟨_, rfl⟩
    have hflK : [key, List.replicate n 0].flatten = K2 := by rw [← hK2]; simp
    have hK2l : K2.length ≤ 64 := by rw [← hK2]; simp; omega
    have hK2m : hmac K2 M = hmac key M := by rw [← hK2]; exact hmac_zeros key M n (by omega)
    clear h4 hk4 hkC hjC hTX hTZ hK2
    refine (both_any _ [key, List.replicate n 0] _ (BBAt.pair (T := 22) (hk.keeps hkD) hz4).low (by rw [hflK]; omega)).mono ?_
    rintro e w5 ⟨qv, rfl, hq5, hk5⟩
    rw [hflK] at hq5
    have hQ5 : BRd w5 qv K2 := hq5.bat.low
    obtain ⟨qa, qc, rfl, -, -⟩ := hQ5.slice
    have hkE : Keeps (fun _ => False) w w5 := (hkD.alloc _).trans hk5 (fun _ _ h => h)
    have hjE : Keeps (fun _ => False) w1 w5 := (hjD.alloc _).trans hk5 (fun _ _ h => h)
    clear hq5 hk5 hkD hjD hz4
    go_wp2_with fail
    refine (both_any _ [b, c] _ (BBAt.pair (T := 22) (hb.keeps hkE) (hc.keeps hkE)).low (by rw [hflN]; omega)).mono ?_
    rintro e w6 ⟨nv, rfl, hn6, hk6⟩
    rw [hflN] at hn6
    have hN6 : BRd w6 nv N := hn6.bat.low
    obtain ⟨na, nc, rfl, -, -⟩ := hN6.slice
    have hkF : Keeps (fun _ => False) w w6 := (hkE.alloc _).trans hk6 (fun _ _ h => h)
    have hjF : Keeps (fun _ => False) w1 w6 := (hjE.alloc _).trans hk6 (fun _ _ h => h)
    have hQ6 := (hQ5.keeps ((Keeps.refl _ w5).alloc _)).keeps hk6
    clear hn6 hk6 hkE hjE hQ5
    go_wp2_with fail
    refine (full_any _ _ K2 [a, N] _ (hQ6.keeps ((Keeps.refl _ w6).alloc _)) (BBAt.pair (T := 22) (ha.keeps hkF) hN6).low (by simp) (by omega) (by simp) (by rw [hflQ]; omega) (hT.keeps (hkF.alloc _))).mono ?_
    rintro e w7 ⟨pv, rfl, hp7, hk7⟩
    rw [hflQ, hK2m] at hp7
    have hP7 : BRd w7 pv (hmac key M) := hp7.bat.low
    have hkG : Keeps (fun _ => False) w w7 := (hkF.alloc _).trans hk7 (fun _ _ h => h)
    have hjG : Keeps (fun _ => False) w1 w7 := (hjF.alloc _).trans hk7 (fun _ _ h => h)
    have hTX := (hX1.keeps hjG).text
    have hTP := hP7.text
    clear hp7 hk7 hkF hjF hQ6 hN6 hflK hK2m
    go_wp2_with fail
    have hxc16 : (16 : Int) ≤ (xc : Int) := by omega
    have hFW := hF1.keeps hjG
    by_cases h32 : key.length = 32
    · rw [h32] at hk ⊢
      have H32 := Lib.hid h32
      clear h32
      refine (tag_ok _ _ key [a, b, c] _ (hk.keeps (hkG.alloc _)) (BBAt.three (T := 22) (ha.keeps hkG) (hb.keeps hkG) (hc.keeps hkG)).low (by simp) (by simp) (by rw [hflM]; omega) (hT.keeps (hkG.alloc _)) H32.out).mono ?_
      rintro e w8 ⟨tv, rfl, ht8, hk8⟩
      rw [hflM] at ht8
      have hT8 : BRd w8 tv ((hmac key M).take 16) := ht8.bat.low
      have hF8 := (hFW.keeps ((Keeps.refl _ w7).alloc _)).keeps hk8
      have hk8' : Keeps (fun _ => False) w w8 := (hkG.alloc _).trans hk8 (fun _ _ h => h)
      clear ht8 hk8
      go_wp2_with fail
      refine region_T [] (fun _ => True) (by kernel_rfl) ?_
      have hC : (fun _ : World => True) w8.drew := trivial
      refine anyT_force (i := 0) rfl (by kernel_rfl) (by rfl) ?_
      go_simp
      refine (awake_any _ ((hT.keeps hk8').keeps ((Keeps.refl (fun _ => False) _).drew))).mono ?_
      rintro e w9 ⟨rfl, hk9⟩
      have hk89 : Keeps (fun _ => False) w8 w9 := ((Keeps.refl (fun _ => False) _).drew).trans hk9 (fun _ _ h => h)
      have hC : (fun _ : World => True) w9 := trivial
      clear hk9
      refine anyT_take0 (i := 1) (v := ?_) rfl (by kernel_rfl) (by kernel_rfl) (by kernel_rfl) (by kernel_rfl) (by kernel_rfl) (fun _ _ _ h => h) hC (.inl ⟨by rfl, fun _ _ => ?_⟩) ?_
      rotate_left 1
      · go_simp
        try with_reducible rfl
      simp only [Act.put, List.getElem_toArray, List.getElem_cons_succ, List.getElem_cons_zero, List.setIfInBounds_toArray, List.set_cons_zero, List.set_cons_succ]
      refine anyT_take0 (i := 2) (v := ?_) rfl (by kernel_rfl) (by kernel_rfl) (by kernel_rfl) (by kernel_rfl) (by kernel_rfl) (fun _ _ _ h => h) hC (.inl ⟨by rfl, fun _ _ => ?_⟩) ?_
      rotate_left 1
      · go_simp
        try with_reducible rfl
      simp only [Act.put, List.getElem_toArray, List.getElem_cons_succ, List.getElem_cons_zero, List.setIfInBounds_toArray, List.set_cons_zero, List.set_cons_succ]
      refine anyT_take0 (i := 3) (v := ?_) rfl (by kernel_rfl) (by kernel_rfl) (by kernel_rfl) (by kernel_rfl) (by kernel_rfl) (fun _ _ _ h => h) hC (.inl ⟨by rfl, fun _ _ => ?_⟩) ?_
      rotate_left 1
      · go_simp
        try with_reducible rfl
      simp only [Act.put, List.getElem_toArray, List.getElem_cons_succ, List.getElem_cons_zero, List.setIfInBounds_toArray, List.set_cons_zero, List.set_cons_succ]
      refine anyT_take0 (i := 4) (v := ?_) rfl (by kernel_rfl) (by kernel_rfl) (by kernel_rfl) (by kernel_rfl) (by kernel_rfl) (fun _ _ _ h => h) hC (.inl ⟨by rfl, fun _ _ => ?_⟩) ?_
      rotate_left 1
      · go_simp
        try with_reducible rfl
      simp only [Act.put, List.getElem_toArray, List.getElem_cons_succ, List.getElem_cons_zero, List.setIfInBounds_toArray, List.set_cons_zero, List.set_cons_succ]
      refine anyT_take0 (i := 5) (v := ?_) rfl (by kernel_rfl) (by kernel_rfl) (by kernel_rfl) (by kernel_rfl) (by kernel_rfl) (fun _ _ _ h => h) hC (.inl ⟨by rfl, fun _ _ => ?_⟩) ?_
      rotate_left 1
      · go_simp
        try with_reducible rfl
      simp only [Act.put, List.getElem_toArray, List.getElem_cons_succ, List.getElem_cons_zero, List.setIfInBounds_toArray, List.set_cons_zero, List.set_cons_succ]
      refine anyT_take0 (i := 6) (v := ?_) rfl (by kernel_rfl) (by kernel_rfl) (by kernel_rfl) (by kernel_rfl) (by kernel_rfl) (fun _ _ _ h => h) hC (.inl ⟨by rfl, fun _ _ => ?_⟩) ?_
      rotate_left 1
      · go_simp
        try with_reducible rfl
      simp only [Act.put, List.getElem_toArray, List.getElem_cons_succ, List.getElem_cons_zero, List.setIfInBounds_toArray, List.set_cons_zero, List.set_cons_succ]
      refine anyT_take0 (i := 8) (v := ?_) rfl (by kernel_rfl) (by kernel_rfl) (by kernel_rfl) (by kernel_rfl) (by kernel_rfl) (fun _ _ _ h => h) hC (.inl ⟨by rfl, fun _ _ => ?_⟩) ?_
      rotate_left 1
      · go_simp
        try with_reducible rfl
      simp only [Act.put, List.getElem_toArray, List.getElem_cons_succ, List.getElem_cons_zero, List.setIfInBounds_toArray, List.set_cons_zero, List.set_cons_succ]
      refine anyT_take0 (i := 9) (v := ?_) rfl (by kernel_rfl) (by kernel_rfl) (by kernel_rfl) (by kernel_rfl) (by kernel_rfl) (fun _ _ _ h => h) hC (.inl ⟨by rfl, fun _ _ => ?_⟩) ?_
      rotate_left 1
      · go_simp
        try with_reducible rfl
      simp only [Act.put, List.getElem_toArray, List.getElem_cons_succ, List.getElem_cons_zero, List.setIfInBounds_toArray, List.set_cons_zero, List.set_cons_succ]
      refine anyT_par [(7, rEq (.string ⟨((hmac key M).take 16).toArray⟩)), (10, rEq (.string ⟨((hmac key M).take 16).toArray⟩)), (11, rEq (.bool true)), (12, rEq (.bool true)), (13, rEq (.bool true))] _ [7, 10, 11, 12, 13] (fun _ => trivial) (by kernel_rfl) rfl (by kernel_rfl) rfl ?_
      refine ⟨_, rfl, fun w2 hk2 hK => ?_, fun u7 => ?_⟩
      rotate_left 1
      simp only [dstOf, Act.put, List.getElem?_toArray, List.getElem?_cons_succ, List.getElem?_cons_zero, Option.bind_some, List.setIfInBounds_toArray, List.set_cons_zero, List.set_cons_succ, List.nil_append, List.cons_append]
      rotate_left 1
      · have hTX := (hT8.keeps (hk89.trans hk2 (fun _ _ h => h))).text
        go_wp2_with fail
        exact ⟨_, rfl, rfl, Keeps.refl _ _⟩
      refine ⟨_, rfl, fun w2 hk2 hK => ?_, fun u10 => ?_⟩
      rotate_left 1
      simp only [dstOf, Act.put, List.getElem?_toArray, List.getElem?_cons_succ, List.getElem?_cons_zero, Option.bind_some, List.setIfInBounds_toArray, List.set_cons_zero, List.set_cons_succ, List.nil_append, List.cons_append]
      rotate_left 1
      · have hTX := (hF8.keeps (hk89.trans hk2 (fun _ _ h => h))).text
        go_wp2_with fail
        exact ⟨_, rfl, rfl, Keeps.refl _ _⟩
      refine ⟨_, rfl, fun w2 hk2 hK => ?_, fun u11 => ?_⟩
      rotate_left 1
      simp only [dstOf, Act.put, List.getElem?_toArray, List.getElem?_cons_succ, List.getElem?_cons_zero, Option.bind_some, List.setIfInBounds_toArray, List.set_cons_zero, List.set_cons_succ, List.nil_append, List.cons_append]
      rotate_left 1
      · obtain rfl : u7 = .string ⟨((hmac key M).take 16).toArray⟩ := hK (7, u7) (by simp) (by kernel_rfl)
        obtain rfl : u10 = .string ⟨((hmac key M).take 16).toArray⟩ := hK (10, u10) (by simp) (by kernel_rfl)
        go_wp2_with fail
        exact ⟨_, rfl, rfl, Keeps.refl _ _⟩
      refine ⟨_, rfl, fun w2 hk2 hK => ?_, fun u12 => ?_⟩
      rotate_left 1
      simp only [dstOf, Act.put, List.getElem?_toArray, List.getElem?_cons_succ, List.getElem?_cons_zero, Option.bind_some, List.setIfInBounds_toArray, List.set_cons_zero, List.set_cons_succ, List.nil_append, List.cons_append]
      rotate_left 1
      · obtain rfl : u11 = .bool true := hK (11, u11) (by simp) (by kernel_rfl)
        go_wp2_with fail
        exact ⟨_, rfl, rfl, Keeps.refl _ _⟩
      refine ⟨_, rfl, fun w2 hk2 hK => ?_, fun u13 => ?_⟩
      rotate_left 1
      simp only [dstOf, Act.put, List.getElem?_toArray, List.getElem?_cons_succ, List.getElem?_cons_zero, Option.bind_some, List.setIfInBounds_toArray, List.set_cons_zero, List.set_cons_succ, List.nil_append, List.cons_append]
      rotate_left 1
      · obtain rfl : u12 = .bool true := hK (12, u12) (by simp) (by kernel_rfl)
        go_wp2_with fail
        exact ⟨_, rfl, rfl, Keeps.refl _ _⟩
      intro w2 hk2 hK
      obtain rfl : u13 = .bool true := hK (13, u13) (by simp)
      go_wp2
      go_ret
      exact ⟨rfl, (hk8'.trans hk89 (fun _ _ h => h)).trans hk2 (fun _ _ h => h)⟩
    · have h32' : (key.length : Int) ≠ 32 := by omega
      go_wp2_with (first | (go_at_call 12; refine (tag_bad _ _ key _ (hk.keeps (hkG.alloc _)) h32').mono ?_; rintro e w8 ⟨rfl, rfl⟩) | (go_at_call 9; refine (awake_any _ (hT.keeps (hkG.alloc _))).mono ?_; rintro e w9 ⟨rfl, hk9⟩))
      go_ret
      exact ⟨rfl, (hkG.alloc _).trans hk9 (fun _ _ h => h)⟩
  · have h64' : 64 < (key.length : Int) + more := by omega
    go_wp2_with fail
    have hxc16 : (16 : Int) ≤ (xc : Int) := by omega
    have hFW := hF1.keeps hjC
    by_cases h32 : key.length = 32
    · rw [h32] at hk ⊢
      have H32 := Lib.hid h32
      clear h32
      refine (tag_ok _ _ key [a, b, c] _ (hk.keeps (hkC.alloc _)) (BBAt.three (T := 22) (ha.keeps hkC) (hb.keeps hkC) (hc.keeps hkC)).low (by simp) (by simp) (by rw [hflM]; omega) (hT.keeps (hkC.alloc _)) H32.out).mono ?_
      rintro e w8 ⟨tv, rfl, ht8, hk8⟩
      rw [hflM] at ht8
      have hT8 : BRd w8 tv ((hmac key M).take 16) := ht8.bat.low
      have hF8 := (hFW.keeps ((Keeps.refl _ w3).alloc _)).keeps hk8
      have hk8' : Keeps (fun _ => False) w w8 := (hkC.alloc _).trans hk8 (fun _ _ h => h)
      clear ht8 hk8
      go_wp2_with fail
      refine region_T [] (fun _ => True) (by kernel_rfl) ?_
      have hC : (fun _ : World => True) w8.drew := trivial
      refine anyT_force (i := 0) rfl (by kernel_rfl) (by rfl) ?_
      go_simp
      refine (awake_any _ ((hT.keeps hk8').keeps ((Keeps.refl (fun _ => False) _).drew))).mono ?_
      rintro e w9 ⟨rfl, hk9⟩
      have hk89 : Keeps (fun _ => False) w8 w9 := ((Keeps.refl (fun _ => False) _).drew).trans hk9 (fun _ _ h => h)
      have hC : (fun _ : World => True) w9 := trivial
      clear hk9
      refine anyT_take0 (i := 1) (v := ?_) rfl (by kernel_rfl) (by kernel_rfl) (by kernel_rfl) (by kernel_rfl) (by kernel_rfl) (fun _ _ _ h => h) hC (.inl ⟨by rfl, fun _ _ => ?_⟩) ?_
      rotate_left 1
      · go_simp
        try with_reducible rfl
      simp only [Act.put, List.getElem_toArray, List.getElem_cons_succ, List.getElem_cons_zero, List.setIfInBounds_toArray, List.set_cons_zero, List.set_cons_succ]
      refine anyT_take0 (i := 2) (v := ?_) rfl (by kernel_rfl) (by kernel_rfl) (by kernel_rfl) (by kernel_rfl) (by kernel_rfl) (fun _ _ _ h => h) hC (.inl ⟨by rfl, fun _ _ => ?_⟩) ?_
      rotate_left 1
      · go_simp
        try with_reducible rfl
      simp only [Act.put, List.getElem_toArray, List.getElem_cons_succ, List.getElem_cons_zero, List.setIfInBounds_toArray, List.set_cons_zero, List.set_cons_succ]
      refine anyT_take0 (i := 3) (v := ?_) rfl (by kernel_rfl) (by kernel_rfl) (by kernel_rfl) (by kernel_rfl) (by kernel_rfl) (fun _ _ _ h => h) hC (.inl ⟨by rfl, fun _ _ => ?_⟩) ?_
      rotate_left 1
      · go_simp
        try with_reducible rfl
      simp only [Act.put, List.getElem_toArray, List.getElem_cons_succ, List.getElem_cons_zero, List.setIfInBounds_toArray, List.set_cons_zero, List.set_cons_succ]
      refine anyT_take0 (i := 4) (v := ?_) rfl (by kernel_rfl) (by kernel_rfl) (by kernel_rfl) (by kernel_rfl) (by kernel_rfl) (fun _ _ _ h => h) hC (.inl ⟨by rfl, fun _ _ => ?_⟩) ?_
      rotate_left 1
      · go_simp
        try with_reducible rfl
      simp only [Act.put, List.getElem_toArray, List.getElem_cons_succ, List.getElem_cons_zero, List.setIfInBounds_toArray, List.set_cons_zero, List.set_cons_succ]
      refine anyT_take0 (i := 5) (v := ?_) rfl (by kernel_rfl) (by kernel_rfl) (by kernel_rfl) (by kernel_rfl) (by kernel_rfl) (fun _ _ _ h => h) hC (.inl ⟨by rfl, fun _ _ => ?_⟩) ?_
      rotate_left 1
      · go_simp
        try with_reducible rfl
      simp only [Act.put, List.getElem_toArray, List.getElem_cons_succ, List.getElem_cons_zero, List.setIfInBounds_toArray, List.set_cons_zero, List.set_cons_succ]
      refine anyT_take0 (i := 6) (v := ?_) rfl (by kernel_rfl) (by kernel_rfl) (by kernel_rfl) (by kernel_rfl) (by kernel_rfl) (fun _ _ _ h => h) hC (.inl ⟨by rfl, fun _ _ => ?_⟩) ?_
      rotate_left 1
      · go_simp
        try with_reducible rfl
      simp only [Act.put, List.getElem_toArray, List.getElem_cons_succ, List.getElem_cons_zero, List.setIfInBounds_toArray, List.set_cons_zero, List.set_cons_succ]
      refine anyT_take0 (i := 8) (v := ?_) rfl (by kernel_rfl) (by kernel_rfl) (by kernel_rfl) (by kernel_rfl) (by kernel_rfl) (fun _ _ _ h => h) hC (.inl ⟨by rfl, fun _ _ => ?_⟩) ?_
      rotate_left 1
      · go_simp
        try with_reducible rfl
      simp only [Act.put, List.getElem_toArray, List.getElem_cons_succ, List.getElem_cons_zero, List.setIfInBounds_toArray, List.set_cons_zero, List.set_cons_succ]
      refine anyT_take0 (i := 9) (v := ?_) rfl (by kernel_rfl) (by kernel_rfl) (by kernel_rfl) (by kernel_rfl) (by kernel_rfl) (fun _ _ _ h => h) hC (.inl ⟨by rfl, fun _ _ => ?_⟩) ?_
      rotate_left 1
      · go_simp
        try with_reducible rfl
      simp only [Act.put, List.getElem_toArray, List.getElem_cons_succ, List.getElem_cons_zero, List.setIfInBounds_toArray, List.set_cons_zero, List.set_cons_succ]
      refine anyT_par [(7, rEq (.string ⟨((hmac key M).take 16).toArray⟩)), (10, rEq (.string ⟨((hmac key M).take 16).toArray⟩)), (11, rEq (.bool true)), (12, rEq (.bool true)), (13, rEq (.bool true))] _ [7, 10, 11, 12, 13] (fun _ => trivial) (by kernel_rfl) rfl (by kernel_rfl) rfl ?_
      refine ⟨_, rfl, fun w2 hk2 hK => ?_, fun u7 => ?_⟩
      rotate_left 1
      simp only [dstOf, Act.put, List.getElem?_toArray, List.getElem?_cons_succ, List.getElem?_cons_zero, Option.bind_some, List.setIfInBounds_toArray, List.set_cons_zero, List.set_cons_succ, List.nil_append, List.cons_append]
      rotate_left 1
      · have hTX := (hT8.keeps (hk89.trans hk2 (fun _ _ h => h))).text
        go_wp2_with fail
        exact ⟨_, rfl, rfl, Keeps.refl _ _⟩
      refine ⟨_, rfl, fun w2 hk2 hK => ?_, fun u10 => ?_⟩
      rotate_left 1
      simp only [dstOf, Act.put, List.getElem?_toArray, List.getElem?_cons_succ, List.getElem?_cons_zero, Option.bind_some, List.setIfInBounds_toArray, List.set_cons_zero, List.set_cons_succ, List.nil_append, List.cons_append]
      rotate_left 1
      · have hTX := (hF8.keeps (hk89.trans hk2 (fun _ _ h => h))).text
        go_wp2_with fail
        exact ⟨_, rfl, rfl, Keeps.refl _ _⟩
      refine ⟨_, rfl, fun w2 hk2 hK => ?_, fun u11 => ?_⟩
      rotate_left 1
      simp only [dstOf, Act.put, List.getElem?_toArray, List.getElem?_cons_succ, List.getElem?_cons_zero, Option.bind_some, List.setIfInBounds_toArray, List.set_cons_zero, List.set_cons_succ, List.nil_append, List.cons_append]
      rotate_left 1
      · obtain rfl : u7 = .string ⟨((hmac key M).take 16).toArray⟩ := hK (7, u7) (by simp) (by kernel_rfl)
        obtain rfl : u10 = .string ⟨((hmac key M).take 16).toArray⟩ := hK (10, u10) (by simp) (by kernel_rfl)
        go_wp2_with fail
        exact ⟨_, rfl, rfl, Keeps.refl _ _⟩
      refine ⟨_, rfl, fun w2 hk2 hK => ?_, fun u12 => ?_⟩
      rotate_left 1
      simp only [dstOf, Act.put, List.getElem?_toArray, List.getElem?_cons_succ, List.getElem?_cons_zero, Option.bind_some, List.setIfInBounds_toArray, List.set_cons_zero, List.set_cons_succ, List.nil_append, List.cons_append]
      rotate_left 1
      · obtain rfl : u11 = .bool true := hK (11, u11) (by simp) (by kernel_rfl)
        go_wp2_with fail
        exact ⟨_, rfl, rfl, Keeps.refl _ _⟩
      refine ⟨_, rfl, fun w2 hk2 hK => ?_, fun u13 => ?_⟩
      rotate_left 1
      simp only [dstOf, Act.put, List.getElem?_toArray, List.getElem?_cons_succ, List.getElem?_cons_zero, Option.bind_some, List.setIfInBounds_toArray, List.set_cons_zero, List.set_cons_succ, List.nil_append, List.cons_append]
      rotate_left 1
      · obtain rfl : u12 = .bool true := hK (12, u12) (by simp) (by kernel_rfl)
        go_wp2_with fail
        exact ⟨_, rfl, rfl, Keeps.refl _ _⟩
      intro w2 hk2 hK
      obtain rfl : u13 = .bool true := hK (13, u13) (by simp)
      go_wp2
      go_ret
      exact ⟨rfl, (hk8'.trans hk89 (fun _ _ h => h)).trans hk2 (fun _ _ h => h)⟩
    · have h32' : (key.length : Int) ≠ 32 := by omega
      go_wp2_with (first | (go_at_call 12; refine (tag_bad _ _ key _ (hk.keeps (hkC.alloc _)) h32').mono ?_; rintro e w8 ⟨rfl, rfl⟩) | (go_at_call 9; refine (awake_any _ (hT.keeps (hkC.alloc _))).mono ?_; rintro e w9 ⟨rfl, hk9⟩))
      go_ret
      exact ⟨rfl, (hkC.alloc _).trans hk9 (fun _ _ h => h)⟩

theorem parts_row (kv : Value) (key : List UInt8) (av : Value) (a : List UInt8) (bv : Value) (b : List UInt8) (cv : Value) (c : List UInt8) (more : Int) (w : World) (hk : BRd w kv key) (ha : BRd w av a) (hb : BRd w bv b) (hc : BRd w cv c) (_ : (Lit.int .i64 more).wf = true) (hT : Table w) :
    Calls Tryd.prog 6 #[kv, av, bv, cv, .int .i64 more] w fun e w' => e = .returned (.bool true) ∧ Keeps (fun _ => False) w w' := parts_any kv av bv cv key a b c more w hk ha hb hc hT
end Go.Proofs.YtkcnllbfinjaiaaDoor
