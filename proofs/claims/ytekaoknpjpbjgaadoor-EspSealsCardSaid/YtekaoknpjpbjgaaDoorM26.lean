/- Words, walks and plain laws that the claim leans on, part 26. -/
import Derived.Test.YtekaoknpjpbjgaaDoorM5
import Derived.Test.YtekaoknpjpbjgaaDoorM7
import Derived.Test.YtekaoknpjpbjgaaDoorM16
import Derived.Test.YtekaoknpjpbjgaaDoorM20
import Derived.Test.YtekaoknpjpbjgaaDoorM23
import Derived.Test.YtekaoknpjpbjgaaDoorM25

/-! esp.tag. -/
namespace Go.Proofs.YtekaoknpjpbjgaaDoor
set_option linter.unusedVariables false
set_option linter.unusedSimpArgs false
open Go.RowKit

theorem BRd.nil_ (w : World) : BRd w (.slice none 0 0) [] := BAt.nil w _
theorem small_hi (l : List UInt8) (h : l.length ≤ 4) : l.length ≤ 4 := h
theorem conv_low (w : World) (l : List UInt8) (h : l.length ≤ 1000000) : ∃ c w5, (convert 9 25 (.string ⟨l.toArray⟩)).run Tryd.prog w = .ok (.slice (some ⟨w.heap.size, 0, none⟩) l.length c) w5 ∧ BRd w5 (.slice (some ⟨w.heap.size, 0, none⟩) l.length c) l ∧ Keeps (fun _ => False) w w5 :=
  ⟨_, _, conv_text w l, (BAt.ofText w l h).low, Keeps.bytesWorld _ _ _⟩
set_option maxRecDepth 100000 in
set_option maxHeartbeats 1000000 in
theorem tagsa_any (sa : SaV) (seq : Nat) (bv : Value) (b : List UInt8) (w : World) (hb : BRd w bv b) (hm : sa.mac.length = 32) (hbl : b.length ≤ 9000000) (hT : Table w) (hs : seq < 18446744073709551616) :
    Calls Tryd.prog 28 #[.agg (saC sa), .int .u64 seq, bv] w (Gives (tagS sa seq b) w) := by
  have hka := (Keeps.refl (fun _ => False) w).alloc (.cells (saC sa) 23)
  have hra := RowAt.new w (saC sa) 23
  obtain ⟨ba, bc, rfl, hbc, hbm⟩ := hb.slice
  obtain ⟨spi, key, salt, mac, esn, window⟩ := sa
  unfold saC at hka hra ⊢
  unfold tagS highOf
  simp only at hm hka hra ⊢
  have HN := Lib.hid (fun w => number4_any (seq / 4294967296) w (by omega))
  have hsh : (seq : Int) / 4294967296 = ((seq / 4294967296 : Nat) : Int) := by omega
  have HSH := Lib.hid hsh
  have HM := Lib.hid hm
  have HKA := Lib.hid hka
  have HRA := Lib.hid hra
  have HB := Lib.hid hb
  have HT := Lib.hid hT
  clear hsh hm hka hra hb hT hs
  obtain ⟨s, hs⟩ : ∃ s : Int, (seq : Int) = s := ⟨_, rfl⟩
  rw [hs] at HSH ⊢
  cases esn with
  | false =>
    have HK := Lib.hid HKA.out
    have HI := Lib.hid (BRd.nil_ (w.alloc (.cells #[.int .i64 spi, .string ⟨key.toArray⟩, .string ⟨salt.toArray⟩, .string ⟨mac.toArray⟩, .bool false, .int .i64 window] 23)))
    go_enter Tryd.func28, Tryd.ntmps28
    go_wp2_with fail
    generalize w.alloc (.cells #[.int .i64 spi, .string ⟨key.toArray⟩, .string ⟨salt.toArray⟩, .string ⟨mac.toArray⟩, .bool false, .int .i64 window] 23) = w4 at HK HI ⊢
    clear HRA HKA HN
    obtain ⟨kc, w5, hcv, hb4, hk4⟩ := conv_low w4 mac (by rw [HM.out]; decide)
    rw [hcv]
    go_wp2_with fail
    have hk5 := HK.out.trans hk4 (fun _ _ h => h)
    have hpair := (BBAt.pair (T := 25) (HB.out.keeps hk5) (BRd.keeps HI.out hk4)).low
    have hkv := hb4.keeps ((Keeps.refl (fun _ => False) w5).alloc (.cells #[.slice ba b.length bc, (.slice none 0 0)] 25))
    have hk6 : Keeps (fun _ => False) w (w5.alloc (.cells #[.slice ba b.length bc, (.slice none 0 0)] 25)) := hk5.alloc _
    have ht6 := HT.out.keeps hk6
    refine (tag_ok _ _ mac [b, []] _ hkv hpair (Nat.succ_pos _) (by show 2 ≤ 1000; omega) (by rw [show [b, []].flatten = b ++ [] by simp, List.length_append]; exact Nat.le_trans (Nat.add_le_add hbl (small_hi _ (by first | exact Nat.le_refl _ | exact Nat.zero_le _))) (by omega)) ht6 HM.out).mono ?_
    rintro e w7 ⟨v7, rfl, ho7, hk7⟩
    rw [show [b, []].flatten = b ++ [] by simp] at ho7
    try rw [List.append_nil] at ho7
    generalize hL : List.take 16 (hmac mac b) = L at ho7
    have HL := Lib.hid hL
    clear hL
    obtain ⟨va, vc, rfl, hvc, hvm⟩ := ho7.slice
    have HO := Lib.hid (ho7.mono (Nat.le_trans hk6.size (Nat.le_refl _)))
    have HK7 := Lib.hid (hk6.trans hk7 (fun _ _ h => h))
    clear ho7 hk7 hk6 ht6 hkv hpair hk5 hcv hb4 hk4
    go_wp2
    go_ret
    exact ⟨_, rfl, HL.out.symm ▸ HO.out, HK7.out⟩
  | true =>
    go_enter Tryd.func28, Tryd.ntmps28
    go_wp2_with fail
    rw [HSH.out]
    refine (HN.out _).mono ?_
    rintro e w4 ⟨hv, rfl, ho4, hk4'⟩
    have HK := Lib.hid (HKA.out.trans hk4' (fun _ _ h => h))
    have hr4 := HRA.out.keeps hk4' (fun h => h)
    have c3 : w4.cell? ⟨w.heap.size, 3, none⟩ = some (.string ⟨mac.toArray⟩) := hr4.cell 3
    obtain ⟨ha, hc, rfl, hhc, hhm⟩ := ho4.slice
    have HI := Lib.hid (show BRd w4 _ _ from ho4.bat.low)
    clear hr4 hk4' ho4
    go_wp2_with fail
    obtain ⟨kc, w5, hcv, hb4, hk4⟩ := conv_low w4 mac (by rw [HM.out]; decide)
    rw [hcv]
    go_wp2_with fail
    have hk5 := HK.out.trans hk4 (fun _ _ h => h)
    have hpair := (BBAt.pair (T := 25) (HB.out.keeps hk5) (BRd.keeps HI.out hk4)).low
    have hkv := hb4.keeps ((Keeps.refl (fun _ => False) w5).alloc (.cells #[.slice ba b.length bc, (.slice ha (be4 (seq / 4294967296)).length hc)] 25))
    have hk6 : Keeps (fun _ => False) w (w5.alloc (.cells #[.slice ba b.length bc, (.slice ha (be4 (seq / 4294967296)).length hc)] 25)) := hk5.alloc _
    have ht6 := HT.out.keeps hk6
    refine (tag_ok _ _ mac [b, (be4 (seq / 4294967296))] _ hkv hpair (Nat.succ_pos _) (by show 2 ≤ 1000; omega) (by rw [show [b, (be4 (seq / 4294967296))].flatten = b ++ (be4 (seq / 4294967296)) by simp, List.length_append]; exact Nat.le_trans (Nat.add_le_add hbl (small_hi _ (by first | exact Nat.le_refl _ | exact Nat.zero_le _))) (by omega)) ht6 HM.out).mono ?_
    rintro e w7 ⟨v7, rfl, ho7, hk7⟩
    rw [show [b, (be4 (seq / 4294967296))].flatten = b ++ (be4 (seq / 4294967296)) by simp] at ho7
    try rw [List.append_nil] at ho7
    generalize hL : List.take 16 (hmac mac (b ++ be4 (seq / 4294967296))) = L at ho7
    have HL := Lib.hid hL
    clear hL
    obtain ⟨va, vc, rfl, hvc, hvm⟩ := ho7.slice
    have HO := Lib.hid (ho7.mono (Nat.le_trans hk6.size (Nat.le_refl _)))
    have HK7 := Lib.hid (hk6.trans hk7 (fun _ _ h => h))
    clear ho7 hk7 hk6 ht6 hkv hpair hk5 hcv hb4 hk4
    go_wp2
    go_ret
    exact ⟨_, rfl, HL.out.symm ▸ HO.out, HK7.out⟩
end Go.Proofs.YtekaoknpjpbjgaaDoor

/-! esp.Seal. -/
namespace Go.Proofs.YtekaoknpjpbjgaaDoor
set_option linter.unusedVariables false
set_option linter.unusedSimpArgs false
open Go.RowKit

theorem u64_fit (x : Int) (h1 : 0 ≤ x) (h2 : x ≤ 18446744073709551615) : IntKind.u64.wrap x = x := by
  simp [IntKind.wrap, IntKind.bits, IntKind.signed]
  omega
set_option maxRecDepth 100000 in
set_option maxHeartbeats 1000000 in
/-- What may not be sealed. -/
theorem seal_bad (sa : SaV) (seq : Nat) (dv : Value) (next : Int) (w : World) (h : okN sa seq = false ∨ next < 0 ∨ 255 < next) :
    Calls Tryd.prog 11 #[.agg (saC sa), .int .u64 seq, dv, .int .i64 next] w fun e w' => e = .returned (.tuple #[.slice none 0 0, .int .i64 1]) ∧ Keeps (fun _ => False) w w' := by
  have hka := (Keeps.refl (fun _ => False) w).alloc (.cells (saC sa) 23)
  have hra := RowAt.new w (saC sa) 23
  have HM := Lib.hid (fun w => emay_any sa seq w)
  obtain ⟨spi, key, salt, mac, esn, window⟩ := sa
  unfold saC at hka hra HM ⊢
  simp only at hka hra HM ⊢
  generalize okN ⟨spi, key, salt, mac, esn, window⟩ seq = ok at h HM
  have HKA := Lib.hid hka
  clear hka hra
  go_enter Tryd.func11, Tryd.ntmps11
  go_wp2_with fail
  refine (HM.out _).mono ?_
  rintro e w1 ⟨rfl, hk1⟩
  have HK := Lib.hid (HKA.out.trans hk1 (fun _ _ h => h))
  clear hk1
  cases ok with
  | false =>
    go_wp2
    go_ret2
    exact ⟨rfl, HK.out⟩
  | true =>
    have hn : next < 0 ∨ 255 < next := by rcases h with h | h; cases h; exact h
    have hq : ¬ next / 256 = 0 := by omega
    clear h hn
    go_wp2
    go_ret2
    exact ⟨rfl, HK.out⟩
set_option maxRecDepth 100000 in
set_option maxHeartbeats 1000000 in
/-- What is too long to be sealed. -/
theorem seal_long (sa : SaV) (seq : Nat) (dv : Value) (data : List UInt8) (next : Int) (w : World) (hd : BRd w dv data) (h : okN sa seq = true) (hn : 0 ≤ next ∧ next ≤ 255) (hl : 65535 < lenS data.length) (hm : data.length ≤ 1000000000) :
    Calls Tryd.prog 11 #[.agg (saC sa), .int .u64 seq, dv, .int .i64 next] w fun e w' => e = .returned (.tuple #[.slice none 0 0, .int .i64 2]) ∧ Keeps (fun _ => False) w w' := by
  have hka := (Keeps.refl (fun _ => False) w).alloc (.cells (saC sa) 23)
  have hra := RowAt.new w (saC sa) 23
  have hmay := fun w => emay_any sa seq w
  have HL := Lib.hid (fun w => elen_any data.length w (by omega))
  obtain ⟨da, dc, rfl, -, -⟩ := hd.slice
  clear hd hm
  have hl' : (65535 : Int) < (lenS data.length : Nat) := by omega
  generalize lenS data.length = N at *
  obtain ⟨spi, key, salt, mac, esn, window⟩ := sa
  unfold saC at hka hra hmay ⊢
  simp only at hka hra hmay ⊢
  rw [h] at hmay
  skip
  have HM := Lib.hid hmay
  have HKA := Lib.hid hka
  have HRA := Lib.hid hra
  have hx0 : next / 256 = 0 := by omega
  clear hka hra hmay
  go_enter Tryd.func11, Tryd.ntmps11
  go_wp2_with fail
  refine (HM.out _).mono ?_
  rintro e w1 ⟨rfl, hk1⟩
  have hr1 := HRA.out.keeps hk1 (fun h => h)
  have HK := Lib.hid (HKA.out.trans hk1 (fun _ _ h => h))
  clear hk1 HRA HKA
  go_wp2_with fail
  refine (HL.out _).mono ?_
  rintro e w1' ⟨rfl, rfl⟩
  go_wp2
  go_ret2
  exact ⟨rfl, HK.out⟩

set_option maxRecDepth 100000 in
set_option maxHeartbeats 1000000 in
/-- What is sealed. -/
theorem seal_ok (sa : SaV) (seq : Nat) (dv : Value) (data : List UInt8) (x : UInt8) (w : World) (hd : BRd w dv data) (h : okN sa seq = true) (hl : data.length ≤ 65000) (hT : Table w) (hs : seq < 18446744073709551616) :
    Calls Tryd.prog 11 #[.agg (saC sa), .int .u64 seq, dv, .int .i64 (x.toNat : Int)] w fun e w' => ∃ v, e = .returned (.tuple #[v, .int .i64 0]) ∧ BOwn w' w.heap.size v (sealS sa seq data x) ∧ Keeps (fun _ => False) w w' := by
  have hn : 0 ≤ (x.toNat : Int) ∧ (x.toNat : Int) ≤ 255 := by have := x.toNat_lt; omega
  obtain ⟨next, hnx⟩ : ∃ n : Int, (x.toNat : Int) = n := ⟨_, rfl⟩
  rw [hnx] at hn ⊢
  have hspi : 256 ≤ sa.spi := (okN_spi h).1
  obtain ⟨sn, hsn⟩ : ∃ n : Nat, sa.spi = n := ⟨sa.spi.toNat, by omega⟩
  have hka := (Keeps.refl (fun _ => False) w).alloc (.cells (saC sa) 23)
  have hra := RowAt.new w (saC sa) 23
  have hmay := fun w => emay_any sa seq w
  have HL := Lib.hid (fun w => elen_any data.length w (by omega))
  obtain ⟨da, dc, rfl, -, -⟩ := hd.slice
  have hb := padLen_bd data.length
  have hl' : ¬ (65535 : Int) < (lenS data.length : Nat) := by unfold lenS; omega
  have hmy : mayS sa = true := by
    unfold okN at h
    simp only [Bool.and_eq_true] at h
    exact h.1.1
  obtain ⟨hs1, hs2, hkl, hsl, hml, -, -⟩ := (mayS_iff sa).1 hmy
  have HP := Lib.hid (fun (w1 : World) (h1 : BRd w1 (.slice da data.length dc) data) => pseal_any _ data x w1 h1 hl)
  rw [hnx] at HP
  generalize lenS data.length = N at *
  have HN8 := Lib.hid (fun w => number8_any seq w hs)
  have HTG := Lib.hid (fun (v : Value) (b : List UInt8) (w : World) (h1 : BRd w v b) (h2 : b.length ≤ 9000000) (h3 : Table w) => tagsa_any sa seq v b w h1 hml h2 h3 hs)
  have HD := Lib.hid hd
  have HT := Lib.hid hT
  have hiv : (be8 seq).length = 8 := be8_len _
  have hpl : (padF data x).length ≤ 65536 := by rw [padF_len]; omega
  have htl : (turnOf sa.key sa.salt (be8 seq) (padF data x)).length ≤ 65536 := by rw [turnOf_len]; exact hpl
  have HTS := Lib.hid (fun b => tagS_len sa seq b)
  clear hb hmy hd hT hnx hl
  have HSL := Lib.hid (show sealS sa seq data x = be4 sa.spi.toNat ++ be4 seq ++ be8 seq ++ turnOf sa.key sa.salt (be8 seq) (padF data x) ++ tagS sa seq (be4 sa.spi.toNat ++ be4 seq ++ be8 seq ++ turnOf sa.key sa.salt (be8 seq) (padF data x)) from rfl)
  have HDR := Lib.hid (show (be8 seq).drop 4 = be4 seq from rfl)
  generalize sealS sa seq data x = SS at *
  generalize be8 seq = I at *
  generalize padF data x = P at *
  obtain ⟨spi, key, salt, mac, esn, window⟩ := sa
  unfold saC at hka hra hmay ⊢
  simp only at hka hra hmay ⊢
  rw [h] at hmay
  (simp only at hsn hspi hs1 hs2 hkl hsl hml HTG HSL; unfold saC at HTG; simp only at HTG; subst hsn; rw [Int.toNat_natCast] at HSL)
  have HM := Lib.hid hmay
  have HKA := Lib.hid hka
  have HRA := Lib.hid hra
  have hx0 : next / 256 = 0 := by omega
  clear hka hra hmay
  go_enter Tryd.func11, Tryd.ntmps11
  go_wp2_with fail
  refine (HM.out _).mono ?_
  rintro e w1 ⟨rfl, hk1⟩
  have hr1 := HRA.out.keeps hk1 (fun h => h)
  have HK := Lib.hid (HKA.out.trans hk1 (fun _ _ h => h))
  clear hk1 HRA HKA
  go_wp2_with fail
  refine (HL.out _).mono ?_
  rintro e w1' ⟨rfl, rfl⟩

  go_wp2_with fail
  refine (HP.out _ (HD.out.keeps HK.out)).mono ?_
  rintro e w2 ⟨v2, rfl, ho2, hk2⟩
  obtain ⟨a2, c2, rfl, -, -⟩ := ho2.slice
  go_wp2_with fail
  refine (HN8.out _).mono ?_
  rintro e w3 ⟨v3, rfl, ho3, hk3⟩
  obtain ⟨g3, o3, c3, rfl, hc3, -, -⟩ := ho3.place (by omega)
  rw [hiv] at hc3
  rw [hiv] at ho3 ⊢
  have hk03 := HK.out.trans (hk2.trans hk3 (fun _ _ h => h)) (fun _ _ h => h)
  have hr3 := (hr1.keeps hk2 (fun h => h)).keeps hk3 (fun h => h)
  have k1 : w3.cell? ⟨w.heap.size, 1, none⟩ = some (.string ⟨key.toArray⟩) := hr3.cell 1
  have hp3 := ho2.keeps hk3 (fun _ _ h => h)
  have ht3 := HT.out.keeps hk03
  go_wp2_with fail
  obtain ⟨kc, w4, hcv, hb4, hk4⟩ := conv_low w3 key (by omega)
  rw [hcv]
  have k2 : w4.cell? ⟨w.heap.size, 2, none⟩ = some (.string ⟨salt.toArray⟩) := (hr3.keeps hk4 (fun h => h)).cell 2
  go_wp2_with fail
  obtain ⟨sc, w5, hcv5, hb5, hk5⟩ := conv_low w4 salt (by omega)
  rw [hsl] at hcv5 hb5
  rw [hcv5]
  have hk35 := hk4.trans hk5 (fun _ _ h => h)
  have HTN := Lib.hid (cturn_any _ _ _ _ key salt I P w5 (hb4.keeps hk5) hb5 (BRd.keeps ho3.bat.low hk35) (BRd.keeps hp3.bat.low hk35) hkl hsl hiv (Nat.le_trans hpl (Nat.le_refl _)))
  clear hcv hcv5 hb4 hb5
  go_wp2_with fail
  refine (HTN.out).mono ?_
  rintro e w6 ⟨v6, rfl, ho6, hk6⟩
  clear HTN
  generalize turnOf key salt I P = C at *
  obtain ⟨a6, c6, rfl, -, -⟩ := ho6.slice
  have hk36 := hk35.trans hk6 (fun _ _ h => h)
  have hk06 := hk03.trans hk36 (fun _ _ h => h)
  have hr6 := hr3.keeps hk36 (fun h => h)
  have hi6 := ho3.keeps hk36 (fun _ _ h => h)
  go_wp2_with fail
  have hk3X := hk36
  clear hk4 hk5 hk35 hk6 hk36 k1 k2 ho3 hp3 ho2 hk2 hk3 HP HN8 HD
  have HN4 := Lib.hid (fun w => number4_any sn w (by omega))
  have hw0 := u64_fit (sn : Int) (by omega) (by omega)
  have hcut : BRd w6 (.slice (cutA (some ⟨g3, o3, none⟩) c3 4) (8 - 4) (c3 - 4)) (I.drop 4) := BAt.cutG (BAt.low hi6.bat) 4 (by omega)
  have hc34 : ¬ c3 = 4 := by omega
  rw [show cutA (some ⟨g3, o3, none⟩) c3 4 = some ⟨g3, o3 + 4, none⟩ by unfold cutA; rw [if_neg hc34, Option.map_some, addr_add]] at hcut
  rw [HDR.out] at hcut
  refine region_T [3, 6] (fun x => x.cell? ⟨w.heap.size, 0, none⟩ = some (.int .i64 (sn : Int))) (by kernel_rfl) ?_
  have hC : (fun x : World => x.cell? ⟨w.heap.size, 0, none⟩ = some (.int .i64 (sn : Int))) w6.drew := hr6.cell 0
  refine anyT_take0 (i := 0) (v := ?_) rfl (by kernel_rfl) (by kernel_rfl) (by kernel_rfl) (by kernel_rfl) (by kernel_rfl) (fun _ _ _ h => h) hC (.inl ⟨by rfl, fun _ _ => ?_⟩) ?_
  rotate_left 1
  · go_simp
    try with_reducible rfl
  simp only [Act.put, List.getElem_toArray, List.getElem_cons_succ, List.getElem_cons_zero, List.setIfInBounds_toArray, List.set_cons_zero, List.set_cons_succ]
  refine anyT_takeW (i := 1) (v := ?_) rfl (by kernel_rfl) (by kernel_rfl) (by kernel_rfl) (by kernel_rfl) (by kernel_rfl) (by kernel_rfl) (fun _ _ _ h => h) hC (.inl ⟨by rfl, fun w hCw => ?_⟩) ?_
  rotate_left 1
  · dsimp only at hCw
    go_simp
    try with_reducible rfl
  simp only [Act.put, List.getElem_toArray, List.getElem_cons_succ, List.getElem_cons_zero, List.setIfInBounds_toArray, List.set_cons_zero, List.set_cons_succ]
  refine anyT_take0 (i := 2) (v := ?_) rfl (by kernel_rfl) (by kernel_rfl) (by kernel_rfl) (by kernel_rfl) (by kernel_rfl) (fun _ _ _ h => h) hC (.inl ⟨by rfl, fun _ _ => ?_⟩) ?_
  rotate_left 1
  · go_simp
    try with_reducible rfl
  simp only [Act.put, List.getElem_toArray, List.getElem_cons_succ, List.getElem_cons_zero, List.setIfInBounds_toArray, List.set_cons_zero, List.set_cons_succ]
  refine anyT_take0 (i := 4) (v := ?_) rfl (by kernel_rfl) (by kernel_rfl) (by kernel_rfl) (by kernel_rfl) (by kernel_rfl) (fun _ _ _ h => h) hC (.inl ⟨by rfl, fun _ _ => ?_⟩) ?_
  rotate_left 1
  · go_simp
    try with_reducible rfl
  simp only [Act.put, List.getElem_toArray, List.getElem_cons_succ, List.getElem_cons_zero, List.setIfInBounds_toArray, List.set_cons_zero, List.set_cons_succ]
  refine anyT_take0 (i := 5) (v := ?_) rfl (by kernel_rfl) (by kernel_rfl) (by kernel_rfl) (by kernel_rfl) (by kernel_rfl) (fun _ _ _ h => h) hC (.inl ⟨by rfl, fun _ _ => ?_⟩) ?_
  rotate_left 1
  · go_simp
    try with_reducible rfl
  simp only [Act.put, List.getElem_toArray, List.getElem_cons_succ, List.getElem_cons_zero, List.setIfInBounds_toArray, List.set_cons_zero, List.set_cons_succ]
  refine anyT_force (i := 3) rfl (by kernel_rfl) (by rfl) ?_
  go_simp
  refine (HN4.out _).mono ?_
  rintro e w7 ⟨v7, rfl, ho7, hk7⟩
  have hk7' : Keeps (fun _ => False) w6 w7 := (Keeps.refl (fun _ => False) w6).drew.trans hk7 (fun _ _ h => h)
  have ho7' : BOwn w7 w6.heap.size v7 (be4 sn) := ho7
  refine ⟨fun hy => absurd (hy 3 (by simp)) (by simp), ?_⟩
  refine anyT_restart [] (fun _ => True) ⟨3, by rfl, by simp⟩ ?_
  try simp only [Act.put, List.getElem_toArray, List.getElem_cons_succ, List.getElem_cons_zero, List.setIfInBounds_toArray, List.set_cons_zero, List.set_cons_succ]
  obtain ⟨v8, w8, hrun8, ho8, hk8, -⟩ := run_append_bytes (ty := 25) ho7' (BRd.keeps hcut hk7') (by simp only [be4_len]; omega) hk7'.size
  obtain ⟨B1, hB1⟩ : ∃ B1, be4 sn ++ be4 seq = B1 := ⟨_, rfl⟩
  have hl1 : B1.length = 8 := by rw [← hB1]; rfl
  rw [hB1] at ho8
  obtain ⟨a8, c8, rfl, -, -⟩ := ho8.slice
  rw [hl1] at ho8 hrun8
  have HR8 := Lib.hid hrun8
  have hk8' : Keeps (fun _ => False) w6 w8 := hk7'.from hk8 fun i hi => (ho7'.block i hi).1
  clear hrun8 hC
  have hC : True := trivial
  refine anyT_force (i := 6) rfl (by kernel_rfl) (by rfl) ?_
  refine Lib.wp_append_run _ _ _ _ _ rfl _ _ rfl rfl _ _ HR8.out ?_
  refine ⟨fun _ => trivial, ?_⟩
  try simp only [Act.put, List.getElem_toArray, List.getElem_cons_succ, List.getElem_cons_zero, List.setIfInBounds_toArray, List.set_cons_zero, List.set_cons_succ]
  refine anyT_take0 (i := 7) (v := ?_) rfl (by kernel_rfl) (by kernel_rfl) (by kernel_rfl) (by kernel_rfl) (by kernel_rfl) (fun _ _ _ h => h) hC (.inl ⟨by rfl, fun _ _ => ?_⟩) ?_
  rotate_left 1
  · go_simp
    try with_reducible rfl
  simp only [Act.put, List.getElem_toArray, List.getElem_cons_succ, List.getElem_cons_zero, List.setIfInBounds_toArray, List.set_cons_zero, List.set_cons_succ]
  refine (show anyT _ _ _ _ _ _ 0 _ _ _ from ⟨by kernel_rfl, ?_⟩)
  have hk08 := hk06.trans hk8' (fun _ _ h => h)
  have hr8 := hr6.keeps hk8' (fun h => h)
  obtain ⟨v9, w9, hrun9, ho9, hk9, -⟩ := run_append_bytes (ty := 25) ho8 (BRd.keeps hi6.bat.low hk8') (by omega) hk8'.size
  obtain ⟨B2, hB2⟩ : ∃ B2, B1 ++ I = B2 := ⟨_, rfl⟩
  have hl2 : B2.length = 16 := by rw [← hB2, List.length_append]; omega
  rw [hB2] at ho9
  obtain ⟨a9, c9, rfl, -, -⟩ := ho9.slice
  rw [hl2] at ho9 hrun9
  have hk9' : Keeps (fun _ => False) w6 w9 := hk8'.from hk9 fun i hi => (ho8.block i hi).1
  obtain ⟨v10, w10, hrun10, ho10, hk10, -⟩ := run_append_bytes (ty := 25) ho9 (BRd.keeps ho6.bat.low hk9') (by omega) hk9'.size
  obtain ⟨B3, hB3⟩ : ∃ B3, B2 ++ C = B3 := ⟨_, rfl⟩
  have hl3 : B3.length = 16 + C.length := by rw [← hB3, List.length_append]; omega
  rw [hB3] at ho10
  obtain ⟨a10, c10, rfl, -, -⟩ := ho10.slice
  have HB := Lib.hid (And.intro hB1 (And.intro hB2 hB3))
  clear hB1 hB2 hB3
  have hk10' : Keeps (fun _ => False) w6 w10 := hk9'.from hk10 fun i hi => (ho9.block i hi).1
  have hk010 := hk06.trans hk10' (fun _ _ h => h)
  have hr10 := hr6.keeps hk10' (fun h => h)
  have d0 := hr10.cell 0
  have d1 := hr10.cell 1
  have d2 := hr10.cell 2
  have d3 := hr10.cell 3
  have d4 := hr10.cell 4
  have d5 := hr10.cell 5
  have HR9 := Lib.hid hrun9
  have HR10 := Lib.hid hrun10
  clear hrun9 hrun10
  have hB3l : B3.length ≤ 9000000 := by omega
  have hB3m : B3.length ≤ 70000 := by omega
  have hB3e : B1.length = 8 := hl1
  clear hl3 hl1 hl2 hB3e
  have HT10 := Lib.hid (ht3.keeps (show Keeps (fun _ => False) w3 w10 from hk3X.trans hk10' (fun _ _ h => h)))
  have HKF := Lib.hid hk010
  have hsz06 : w.heap.size ≤ w6.heap.size := hk06.size
  have hsz10 : w6.heap.size ≤ w10.heap.size := hk10'.size
  have HBF := Lib.hid ho10
  clear hr10 hr8 hk010 hk10' hk9' hk8' ho8 ho9 hk7' ho7' hi6 hcut ho7 hk7 hk8 hk9 hk10 hr6 hr3 hr1 HR8 hk03 hk06 hk08 ho6
  go_wp2_with (at_builtin; first | (refine Lib.wpList_append_run _ rfl _ _ _ _ rfl _ _ rfl rfl _ _ HR9.out ?_; clear HR9) | (refine Lib.wpList_append_run _ rfl _ _ _ _ rfl _ _ rfl rfl _ _ HR10.out ?_; clear HR10))
  refine (HTG.out _ B3 w10 (BRd.keeps HBF.out.bat.low (Keeps.refl _ _)) hB3l HT10.out).mono ?_
  rintro e w11 ⟨v11, rfl, ho11, hk11⟩
  have hT16 := HTS.out B3
  have hv11 := ho11.slice
  have hSS : SS = B3 ++ tagS ⟨(sn : Int), key, salt, mac, esn, window⟩ seq B3 := by
    obtain ⟨e1, e2, e3⟩ := HB.out
    rw [HSL.out, e1, e2, e3]
  generalize tagS ⟨(sn : Int), key, salt, mac, esn, window⟩ seq B3 = TG at *
  obtain ⟨v12, w12, hrun12, ho12, hk12, -⟩ := run_append_bytes (ty := 25) (BOwn.keeps HBF.out hk11 (fun _ _ h => h)) ho11.bat (by omega) (by have := hk11.size; have := hsz10; omega)
  rw [← hSS] at ho12
  obtain ⟨a12, c12, rfl, -, -⟩ := ho12.slice
  have HR12 := Lib.hid hrun12
  have HO12 := Lib.hid (ho12.mono hsz06)
  have HK12 := Lib.hid ((HKF.out.trans hk11 (fun _ _ h => h)).from hk12 fun i hi => Nat.le_trans hsz06 (HBF.out.block i hi).1)
  clear hrun12 ho12 hk12 ho11 hk11 ho10 HB HBF HKF HT10 HTG HTS HSL hT16 hSS
  obtain ⟨a11, c11, rfl, -, -⟩ := hv11
  go_wp2_with (at_builtin; refine Lib.wpList_append_run _ rfl _ _ _ _ rfl _ _ rfl rfl _ _ HR12.out ?_)
  go_ret2
  exact ⟨_, rfl, HO12.out, HK12.out⟩
end Go.Proofs.YtekaoknpjpbjgaaDoor
