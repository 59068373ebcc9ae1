/- Words, walks and plain laws that the claim leans on, part 43. -/
import Derived.Test.YtekaoknpjpbjgaaDoorM32
import Derived.Test.YtekaoknpjpbjgaaDoorM41
import Derived.Test.YtekaoknpjpbjgaaDoorM42

/-! The reference of layer 14: what is sealed. -/
namespace Go.Proofs.YtekaoknpjpbjgaaDoor
set_option linter.unusedVariables false
set_option linter.unusedSimpArgs false
open Go.RowKit

set_option maxRecDepth 100000 in
set_option maxHeartbeats 2000000 in
theorem rseal_ok (sa : SaV) (seq : Nat) (dv : Value) (data : List UInt8) (x : UInt8) (w : World) (hsz : SizedSa sa) (hd : BRd w dv data) (h : okN sa seq = true) (hl : data.length ≤ 3000) (hs : seq < 18446744073709551616) :
    Calls Tryd.prog 12 #[.agg (saC sa), .int .u64 seq, dv, .int .i64 (x.toNat : Int)] w fun e w' => ∃ v, e = .returned (.tuple #[v, .int .i64 0]) ∧ BOwn w' w.heap.size v (sealS sa seq data x) ∧ Keeps (fun _ => False) w w' := by
  have hka := (Keeps.refl (fun _ => False) w).alloc (.cells (saC sa) 23)
  have hra := RowAt.new w (saC sa) 23
  have HMY := Lib.hid (fun w => rmay14_any sa w hsz)
  have HNM := Lib.hid (fun w => rnumber_any sa seq w)
  have hokn := okN_num sa seq
  have HL := Lib.hid (fun w => rlen14_any data.length w (by omega))
  have hspi := okN_spi h
  obtain ⟨sn, hsn⟩ : ∃ n : Nat, sa.spi = n := ⟨sa.spi.toNat, by omega⟩
  rw [h] at hokn
  obtain ⟨hm1, hm2⟩ : mayS sa = true ∧ numS sa seq = true := by simpa using hokn.symm
  obtain ⟨-, -, hkl, hsl, hml, -, -⟩ := (mayS_iff sa).1 hm1
  rw [hm1] at HMY
  rw [hm2] at HNM
  have hpl := padLen_bd data.length
  have hN : (lenS data.length : Int) ≤ 65535 := by unfold lenS; omega
  have hpf := padF_len data x
  have HP := Lib.hid (fun (w1 : World) (v : Value) (h1 : BRd w1 v data) => rpseal_any v data x w1 h1 (by omega))
  have HH := Lib.hid (fun w => halves_any seq w hs)
  have HF4 := Lib.hid (fun w => four_nat sn w (by omega))
  have hfl := frontS_len sa seq data x
  have HTG := Lib.hid (fun (w : World) (v : Value) (h1 : BRd w v (frontS sa seq data x)) => rtag14_any sa seq v (frontS sa seq data x) w h1 hml (by rw [hfl]; omega) hs)
  have hFR : frontS sa seq data x = be4 sn ++ be4 seq ++ be8 seq ++ turnOf sa.key sa.salt (be8 seq) (padF data x) := by unfold frontS; rw [hsn]; rfl
  have hSS : sealS sa seq data x = frontS sa seq data x ++ tagS sa seq (frontS sa seq data x) := rfl
  have hiv : be8 seq = be4 (seq / 4294967296) ++ be4 seq := rfl
  have hTl := tagS_len sa seq (frontS sa seq data x)
  have hcl : (turnOf sa.key sa.salt (be8 seq) (padF data x)).length = (padF data x).length := turnOf_len _ _ _ _
  generalize tagS sa seq (frontS sa seq data x) = TG at *
  generalize sealS sa seq data x = SS at *
  generalize frontS sa seq data x = FR at *
  have hivl : (be8 seq).length = 8 := rfl
  have hb1 : (be4 (seq / 4294967296)).length = 4 := rfl
  have hb2 : (be4 seq).length = 4 := rfl
  have hb3 : (be4 sn).length = 4 := rfl
  generalize be8 seq = IV at *
  generalize be4 (seq / 4294967296) = IH at *
  generalize be4 seq = IL at *
  generalize be4 sn = SP at *
  generalize padF data x = P at *
  obtain ⟨C, hC⟩ : ∃ C, turnOf sa.key sa.salt IV P = C := ⟨_, rfl⟩
  have hP65 : P.length ≤ 65536 := by omega
  have HTN := Lib.hid (fun (w : World) (kv sv iv bv : Value) (h1 : BRd w kv sa.key) (h2 : BRd w sv sa.salt) (h3 : BRd w iv IV) (h4 : BRd w bv P) => rturn_any kv sv iv bv sa.key sa.salt IV P w h1 h2 h3 h4 hkl hsl hivl hP65)
  rw [hC] at HTN hFR hcl
  have HKS := Lib.hid (show sa.key.length ≤ 1000000 ∧ sa.salt.length ≤ 1000000 by omega)
  generalize lenS data.length = N at *
  obtain ⟨nx, hnx⟩ : ∃ n : Int, (x.toNat : Int) = n := ⟨_, rfl⟩
  have hn1 : 0 ≤ nx := by omega
  have hn2 : nx ≤ 255 := by have := x.toNat_lt; omega
  rw [hnx] at HP ⊢
  obtain ⟨z, hz⟩ : ∃ z : Int, (seq : Int) = z := ⟨_, rfl⟩
  rw [hz] at HNM HH HTG ⊢
  obtain ⟨si, hsi⟩ : ∃ z : Int, (sn : Int) = z := ⟨_, rfl⟩
  rw [hsi] at HF4 hsn
  obtain ⟨spi, key, salt, mac, esn, window⟩ := sa
  unfold saC at hka hra HMY HNM HTG ⊢
  simp only at hka hra HMY HNM HTG HTN HKS hsn ⊢
  subst hsn
  obtain ⟨da, dc, rfl, -, -⟩ := hd.slice
  have HKA := Lib.hid hka
  have HRA := Lib.hid hra
  have HD := Lib.hid hd
  have HEQ := Lib.hid (And.intro hFR (And.intro hSS hiv))
  have HLN := Lib.hid (show FR.length ≤ 70000 ∧ TG.length ≤ 100 ∧ C.length ≤ 65536 ∧ IH.length = 4 ∧ IL.length = 4 ∧ SP.length = 4 ∧ IV.length = 8 by omega)
  clear hka hra hsz hokn hd h hm1 hm2 hl hs hspi hkl hsl hml hpl hpf hfl hTl hcl hivl hb1 hb2 hb3 hP65 hC hnx hz hsi hFR hSS hiv
  go_enter Tryd.func12, Tryd.ntmps12
  go_wp2_with fail
  refine (HMY.out _).mono ?_
  rintro e w1 ⟨rfl, hk1⟩
  have HK1 := Lib.hid (HKA.out.trans hk1 (fun _ _ h => h))
  have HR1 := Lib.hid (HRA.out.keeps hk1 (fun h => h))
  clear hk1
  have d0 := (HR1.out).cell 0
  have d1 := (HR1.out).cell 1
  have d2 := (HR1.out).cell 2
  have d3 := (HR1.out).cell 3
  have d4 := (HR1.out).cell 4
  have d5 := (HR1.out).cell 5
  go_wp2_with fail
  refine (HNM.out _).mono ?_
  rintro e w2 ⟨rfl, hk2⟩
  have HK2 := Lib.hid (HK1.out.trans hk2 (fun _ _ h => h))
  have HR2 := Lib.hid (HR1.out.keeps hk2 (fun h => h))
  clear hk2 d0 d1 d2 d3 d4 d5
  go_wp2_with fail
  refine (HL.out _).mono ?_
  rintro e w3 ⟨rfl, rfl⟩
  go_wp2_with fail
  refine (HH.out _).mono ?_
  rintro e w3 ⟨v1, v2, rfl, ho1, ho2, hk3⟩
  have HK3 := Lib.hid (HK2.out.trans hk3 (fun _ _ h => h))
  have HR3 := Lib.hid (HR2.out.keeps hk3 (fun h => h))
  obtain ⟨a1, c1, rfl, -, -⟩ := ho1.slice
  obtain ⟨a2, c2, rfl, -, -⟩ := ho2.slice
  have h1r : BRd w3 (.slice a1 4 c1) IH := by have := ho1.bat.low; rwa [HLN.out.2.2.2.1] at this
  have h2r : BRd w3 (.slice a2 4 c2) IL := by have := ho2.bat.low; rwa [HLN.out.2.2.2.2.1] at this
  rw [HLN.out.2.2.2.1, HLN.out.2.2.2.2.1]
  have HI3 := Lib.hid h2r
  have hb4 := BBAt.lits2 (T := 25) [.slice a1 4 c1, .slice a2 4 c2] [IH, IL] 2 rfl (by omega) ⟨h1r, h2r, trivial⟩
  have HB4 := Lib.hid (both_any _ _ _ hb4 (by simp [HLN.out.2.2.2.1, HLN.out.2.2.2.2.1]))
  have HK4 := Lib.hid (HK3.out.alloc (.cells #[.slice a1 4 c1, .slice a2 4 c2] 25))
  have HR4 := Lib.hid (HR3.out.alloc (.cells #[.slice a1 4 c1, .slice a2 4 c2] 25))
  have HI4 := Lib.hid (BRd.keeps h2r ((Keeps.refl (fun _ => False) w3).alloc (.cells #[.slice a1 4 c1, .slice a2 4 c2] 25)))
  clear ho1 ho2 hk3 h1r h2r hb4 HK2 HR2 HL HH HMY HNM HKA HRA HI3
  go_wp2_with fail
  refine HB4.out.mono ?_
  rintro e w5 ⟨v5, rfl, ho5, hk5⟩
  rw [show [IH, IL].flatten = IH ++ IL by simp, ← HEQ.out.2.2] at ho5
  obtain ⟨a5, c5, rfl, -, -⟩ := ho5.slice
  have h5r : BRd w5 (.slice a5 8 c5) IV := by have := ho5.bat.low; rwa [HLN.out.2.2.2.2.2.2] at this
  rw [HLN.out.2.2.2.2.2.2]
  have HK5 := Lib.hid (HK4.out.trans hk5 (fun _ _ h => h))
  have HR5 := Lib.hid (HR4.out.keeps hk5 (fun h => h))
  have HI5 := Lib.hid (BRd.keeps HI4.out hk5)
  have HV5 := Lib.hid h5r
  clear ho5 hk5 h5r HB4 HK4 HR4 HI4
  go_wp2_with fail
  refine (HP.out _ _ (BRd.keeps HD.out HK5.out)).mono ?_
  rintro e w6 ⟨v6, rfl, ho6, hk6⟩
  have HK6 := Lib.hid (HK5.out.trans hk6 (fun _ _ h => h))
  have HR6 := Lib.hid (HR5.out.keeps hk6 (fun h => h))
  have HI6 := Lib.hid (BRd.keeps HI5.out hk6)
  have HV6 := Lib.hid (BRd.keeps HV5.out hk6)
  have HP6 := Lib.hid (show BRd w6 v6 P from ho6.bat.low)
  clear ho6 hk6 HK5 HR5 HI5 HV5 HP HD HK3 HR3
  have k1 : w6.cell? ⟨w.heap.size, 1, none⟩ = some (.string ⟨key.toArray⟩) := HR6.out.cell 1
  go_wp2_with fail
  obtain ⟨kc, w7, hcv, hb7, hk7⟩ := conv_low w6 key HKS.out.1
  rw [hcv]
  have k2 : w7.cell? ⟨w.heap.size, 2, none⟩ = some (.string ⟨salt.toArray⟩) := (HR6.out.keeps hk7 (fun h => h)).cell 2
  go_wp2_with fail
  obtain ⟨sc, w8, hcv8, hb8, hk8⟩ := conv_low w7 salt HKS.out.2
  rw [hcv8]
  have hk68 := hk7.trans hk8 (fun _ _ h => h)
  have HTX := Lib.hid (HTN.out w8 _ _ _ _ (hb7.keeps hk8) hb8 (BRd.keeps HV6.out hk68) (BRd.keeps HP6.out hk68))
  have HK8 := Lib.hid (HK6.out.trans hk68 (fun _ _ h => h))
  have HR8 := Lib.hid (HR6.out.keeps hk68 (fun h => h))
  have HI8 := Lib.hid (BRd.keeps HI6.out hk68)
  have HV8 := Lib.hid (BRd.keeps HV6.out hk68)
  clear hcv hcv8 hb7 hb8 hk7 hk8 hk68 HK6 HR6 HI6 HV6 HP6 HTN k1 k2
  go_wp2_with fail
  refine HTX.out.mono ?_
  rintro e w9 ⟨v9, rfl, ho9, hk9⟩
  have HK9 := Lib.hid (HK8.out.trans hk9 (fun _ _ h => h))
  have HR9 := Lib.hid (HR8.out.keeps hk9 (fun h => h))
  have HI9 := Lib.hid (BRd.keeps HI8.out hk9)
  have HV9 := Lib.hid (BRd.keeps HV8.out hk9)
  have HC9 := Lib.hid (show BRd w9 v9 C from ho9.bat.low)
  obtain ⟨a9, c9, rfl, -, -⟩ := ho9.slice
  clear ho9 hk9 HTX HK8 HR8 HI8 HV8
  have k0 : w9.cell? ⟨w.heap.size, 0, none⟩ = some (.int .i64 spi) := HR9.out.cell 0
  go_wp2_with fail
  refine (HF4.out _).mono ?_
  rintro e w10 ⟨v10, rfl, ho10, hk10⟩
  obtain ⟨a10, c10, rfl, -, -⟩ := ho10.slice
  have hSPr : BRd w10 (.slice a10 4 c10) SP := by have := ho10.bat.low; rwa [HLN.out.2.2.2.2.2.1] at this
  rw [HLN.out.2.2.2.2.2.1]
  have hb11 := BBAt.lits2 (T := 25) [.slice a10 4 c10, .slice a2 4 c2, .slice a5 8 c5, .slice a9 C.length c9] [SP, IL, IV, C] 4 rfl (by omega) ⟨hSPr, BRd.keeps HI9.out hk10, BRd.keeps HV9.out hk10, BRd.keeps HC9.out hk10, trivial⟩
  have HB11 := Lib.hid (both_any _ _ _ hb11 (by simp only [List.flatten_cons, List.flatten_nil, List.length_append, List.length_nil]; have := HLN.out; omega))
  have HK11 := Lib.hid ((HK9.out.trans hk10 (fun _ _ h => h)).alloc (.cells #[.slice a10 4 c10, .slice a2 4 c2, .slice a5 8 c5, .slice a9 C.length c9] 25))
  have HR11 := Lib.hid ((HR9.out.keeps hk10 (fun h => h)).alloc (.cells #[.slice a10 4 c10, .slice a2 4 c2, .slice a5 8 c5, .slice a9 C.length c9] 25))
  clear ho10 hk10 hSPr hb11 HK9 HR9 HI9 HV9 HC9 HF4 k0
  go_wp2_with fail
  refine HB11.out.mono ?_
  rintro e w12 ⟨v12, rfl, ho12, hk12⟩
  rw [show [SP, IL, IV, C].flatten = SP ++ IL ++ IV ++ C by simp, ← HEQ.out.1] at ho12
  obtain ⟨a12, c12, rfl, -, -⟩ := ho12.slice
  have HK12 := Lib.hid (HK11.out.trans hk12 (fun _ _ h => h))
  have HR12 := Lib.hid (HR11.out.keeps hk12 (fun h => h))
  have HF12 := Lib.hid (show BRd w12 _ FR from ho12.bat.low)
  clear ho12 hk12 HB11 HK11 HR11
  have d0 := (HR12.out).cell 0
  have d1 := (HR12.out).cell 1
  have d2 := (HR12.out).cell 2
  have d3 := (HR12.out).cell 3
  have d4 := (HR12.out).cell 4
  have d5 := (HR12.out).cell 5
  go_wp2_with fail
  refine (HTG.out _ _ HF12.out).mono ?_
  rintro e w13 ⟨rfl, hk13⟩
  have HK13 := Lib.hid (HK12.out.trans hk13 (fun _ _ h => h))
  have HF13 := Lib.hid (BRd.keeps HF12.out hk13)
  clear hk13 d0 d1 d2 d3 d4 d5 HK12 HR12 HF12 HTG
  go_wp2_with fail
  obtain ⟨tc, w14, hcv, hb14, hk14⟩ := conv_low w13 TG (by have := HLN.out; omega)
  rw [hcv]
  have hb15 := BBAt.lits2 (T := 25) [.slice a12 FR.length c12, .slice (some ⟨w13.heap.size, 0, none⟩) TG.length tc] [FR, TG] 2 rfl (by omega) ⟨BRd.keeps HF13.out hk14, hb14, trivial⟩
  have HB15 := Lib.hid (both_any _ _ _ hb15 (by simp only [List.flatten_cons, List.flatten_nil, List.length_append, List.length_nil]; have := HLN.out; omega))
  have HK15 := Lib.hid ((HK13.out.trans hk14 (fun _ _ h => h)).alloc (.cells #[.slice a12 FR.length c12, .slice (some ⟨w13.heap.size, 0, none⟩) TG.length tc] 25))
  clear hcv hb14 hk14 hb15 HK13 HF13
  go_wp2_with fail
  refine HB15.out.mono ?_
  rintro e w16 ⟨v16, rfl, ho16, hk16⟩
  rw [show [FR, TG].flatten = FR ++ TG by simp, ← HEQ.out.2.1] at ho16
  have HO := Lib.hid (ho16.mono HK15.out.size)
  have HK := Lib.hid (HK15.out.trans hk16 (fun _ _ h => h))
  clear ho16 hk16 HB15 HK15
  go_wp2
  go_ret2
  exact ⟨_, rfl, HO.out, HK.out⟩
end Go.Proofs.YtekaoknpjpbjgaaDoor

/-! The law EspSeals. -/
namespace Go.Proofs.YtekaoknpjpbjgaaDoor
set_option linter.unusedVariables false
set_option linter.unusedSimpArgs false
open Go.RowKit

def sealR (sa : SaV) (s : Nat) (data : List UInt8) (next : Int) : Int × List UInt8 :=
  if okN sa s = false ∨ next < 0 ∨ 255 < next then (1, []) else if 65535 < lenS data.length then (2, []) else (0, sealS sa s data (UInt8.ofNat next.toNat))
def SealE (R : Int × List UInt8) (w : World) (e : Ending) (w' : World) : Prop := ∃ v, e = .returned (.tuple #[v, .int .i64 R.1]) ∧ BOwn w' w.heap.size v R.2 ∧ Keeps (fun _ => False) w w'
theorem sealR_any (sa : SaV) (s : Nat) (dv : Value) (data : List UInt8) (next : Int) (w : World) (hd : BRd w dv data) (hl : data.length ≤ 300 ∨ (65535 < lenS data.length ∧ data.length ≤ 66000)) (hT : Table w) (hs : s < 18446744073709551616) :
    Calls Tryd.prog 11 #[.agg (saC sa), .int .u64 s, dv, .int .i64 next] w (SealE (sealR sa s data next) w) := by
  unfold SealE sealR
  by_cases h : okN sa s = false ∨ next < 0 ∨ 255 < next
  · rw [if_pos h]
    refine (seal_bad sa s dv next w h).mono ?_
    rintro e w' ⟨rfl, hk⟩
    exact ⟨_, rfl, BOwn.nil _ _, hk⟩
  · rw [if_neg h]
    have hok : okN sa s = true := by
      cases h4 : okN sa s with
      | true => rfl
      | false => exact absurd (.inl h4) h
    have hn : 0 ≤ next ∧ next ≤ 255 := ⟨Int.not_lt.1 fun h4 => h (.inr (.inl h4)), Int.not_lt.1 fun h4 => h (.inr (.inr h4))⟩
    by_cases h2 : 65535 < lenS data.length
    · rw [if_pos h2]
      refine (seal_long sa s dv data next w hd hok hn h2 (by omega)).mono ?_
      rintro e w' ⟨rfl, hk⟩
      exact ⟨_, rfl, BOwn.nil _ _, hk⟩
    · rw [if_neg h2]
      have hx : ((UInt8.ofNat next.toNat).toNat : Int) = next := by rw [UInt8.toNat_ofNat']; omega
      have := seal_ok sa s dv data (UInt8.ofNat next.toNat) w hd hok (by omega) hT hs
      rwa [hx] at this
theorem rsealR_any (sa : SaV) (s : Nat) (dv : Value) (data : List UInt8) (next : Int) (w : World) (hsz : SizedSa sa) (hd : BRd w dv data) (hl : data.length ≤ 300 ∨ (65535 < lenS data.length ∧ data.length ≤ 66000)) (hs : s < 18446744073709551616) :
    Calls Tryd.prog 12 #[.agg (saC sa), .int .u64 s, dv, .int .i64 next] w (SealE (sealR sa s data next) w) := by
  unfold SealE sealR
  by_cases h : okN sa s = false ∨ next < 0 ∨ 255 < next
  · rw [if_pos h]
    refine (rseal_bad sa s dv next w hsz h).mono ?_
    rintro e w' ⟨rfl, hk⟩
    exact ⟨_, rfl, BOwn.nil _ _, hk⟩
  · rw [if_neg h]
    have hok : okN sa s = true := by
      cases h4 : okN sa s with
      | true => rfl
      | false => exact absurd (.inl h4) h
    have hn : 0 ≤ next ∧ next ≤ 255 := ⟨Int.not_lt.1 fun h4 => h (.inr (.inl h4)), Int.not_lt.1 fun h4 => h (.inr (.inr h4))⟩
    by_cases h2 : 65535 < lenS data.length
    · rw [if_pos h2]
      refine (rseal_long sa s dv data next w hsz hd hok hn h2 (by omega)).mono ?_
      rintro e w' ⟨rfl, hk⟩
      exact ⟨_, rfl, BOwn.nil _ _, hk⟩
    · rw [if_neg h2]
      have hx : ((UInt8.ofNat next.toNat).toNat : Int) = next := by rw [UInt8.toNat_ofNat']; omega
      have := rseal_ok sa s dv data (UInt8.ofNat next.toNat) w hsz hd hok (by omega) hs
      rwa [hx] at this
theorem boxS_cells {a : Nat} {spi : Int} {key salt mac : List UInt8} {esn : Bool} {window : Int} {x : World} {T : TypeId} (h : RowAt x a #[.int .i64 spi, .string ⟨key.toArray⟩, .string ⟨salt.toArray⟩, .string ⟨mac.toArray⟩, .bool esn, .int .i64 window] T) :
    x.cell? ⟨a, 0, none⟩ = some (.int .i64 spi) ∧ x.cell? ⟨a, 1, none⟩ = some (.string ⟨key.toArray⟩) ∧ x.cell? ⟨a, 2, none⟩ = some (.string ⟨salt.toArray⟩) ∧ x.cell? ⟨a, 3, none⟩ = some (.string ⟨mac.toArray⟩) ∧ x.cell? ⟨a, 4, none⟩ = some (.bool esn) ∧ x.cell? ⟨a, 5, none⟩ = some (.int .i64 window) :=
  ⟨h.cell 0, h.cell 1, h.cell 2, h.cell 3, h.cell 4, h.cell 5⟩
def lenI (n : Int) : Int := if n < 0 then 0 else (lenS n.toNat : Nat)
theorem elenI_any (n : Int) (w : World) (h : n ≤ 1000000) : Calls Tryd.prog 16 #[.int .i64 n] w fun e w' => e = .returned (.int .i64 (lenI n)) ∧ w = w' := by
  unfold lenI
  by_cases h0 : n < 0
  · rw [if_pos h0]; exact elen_neg n w h0
  · rw [if_neg h0]
    have := elen_any n.toNat w (by omega)
    rwa [show ((n.toNat : Nat) : Int) = n by omega] at this
theorem rlenI_any (n : Int) (w : World) (h : n ≤ 1000000) : Calls Tryd.prog 9 #[.int .i64 n] w fun e w' => e = .returned (.int .i64 (lenI n)) ∧ w = w' := by
  unfold lenI
  by_cases h0 : n < 0
  · rw [if_pos h0]; exact rlen14_neg n w h0
  · rw [if_neg h0]
    have := rlen14_any n.toNat w (by omega)
    rwa [show ((n.toNat : Nat) : Int) = n by omega] at this
set_option maxRecDepth 100000 in
set_option maxHeartbeats 4000000 in
theorem lseals_any (sa : SaV) (s : Nat) (dv : Value) (data : List UInt8) (next n : Int) (w : World) (hsz : SizedSa sa) (hs : s < 18446744073709551616) (hd : BRd w dv data) (hT : Table w) :
    Calls Tryd.prog 3 #[.agg (saC sa), .int .u64 s, dv, .int .i64 next, .int .i64 n] w fun e w' => e = .returned (.bool true) ∧ Keeps (fun _ => False) w w' := by
  have hka := (Keeps.refl (fun _ => False) w).alloc (.cells (saC sa) 23)
  have hra := RowAt.new w (saC sa) 23
  have HF := Lib.hid (fun w => few_any sa w hsz)
  have HAW := Lib.hid eawake_any
  have HT := Lib.hid hT
  have HD := Lib.hid hd
  have HCK := Lib.hid (fun w => check_any sa w)
  have HMY := Lib.hid (fun w => rmay14_any sa w hsz)
  have HSX0 := Lib.hid (fun (w : World) (v : Value) (hd : BRd w v data) (hT : Table w) (hl : data.length ≤ 300 ∨ (65535 < lenS data.length ∧ data.length ≤ 66000)) => sealR_any sa s v data next w hd hl hT hs)
  have HSY0 := Lib.hid (fun (w : World) (v : Value) (hd : BRd w v data) (hl : data.length ≤ 300 ∨ (65535 < lenS data.length ∧ data.length ≤ 66000)) => rsealR_any sa s v data next w hsz hd hl hs)
  have HLL := Lib.hid (fun (w : World) (h : data.length ≤ 66000) => rlen14_any data.length w (by omega))
  unfold SealE at HSX0 HSY0
  generalize sealR sa s data next = R at *
  obtain ⟨E, S⟩ := R
  simp only at HSX0 HSY0
  generalize mayS sa = mb at *
  generalize fewS sa = fw at *
  obtain ⟨da, dc, rfl, -, -⟩ := hd.slice
  obtain ⟨z, hz⟩ : ∃ z : Int, (s : Int) = z := ⟨_, rfl⟩
  rw [hz] at HSX0 HSY0 ⊢
  obtain ⟨spi, key, salt, mac, esn, window⟩ := sa
  unfold saC at hka hra HF HCK HMY HSX0 HSY0 ⊢
  simp only at hka hra HF HCK HMY HSX0 HSY0 ⊢
  have HKA := Lib.hid hka
  have HRA := Lib.hid hra
  clear hka hra hd hT hsz hs hz
  by_cases hg : fw = true ∧ (data.length ≤ 300 ∨ (65400 ≤ data.length ∧ data.length ≤ 66000)) ∧ n ≤ 1000000
  · obtain ⟨rfl, hg2, hg3⟩ := hg
    have HL1 := Lib.hid (fun w => elenI_any n w hg3)
    have HL2 := Lib.hid (fun w => rlenI_any n w hg3)
    obtain ⟨SA, hSA⟩ : ∃ SA : Array Value, #[.int .i64 spi, .string ⟨key.toArray⟩, .string ⟨salt.toArray⟩, .string ⟨mac.toArray⟩, .bool esn, .int .i64 window] = SA := ⟨_, rfl⟩
    have HSA := Lib.hid hSA
    rw [hSA] at HCK HMY
    clear hSA
    generalize lenI n = L at *
    by_cases h1 : data.length ≤ 300
    · have hI : (data.length : Int) ≤ 300 := by omega
      have HSP := Lib.hid (fun (w : World) (v : Value) (hd : BRd w v data) (hT : Table w) => HSX0.out w v hd hT (.inl h1))
      have HSR := Lib.hid (fun (w : World) (v : Value) (hd : BRd w v data) => HSY0.out w v hd (.inl h1))
      have hl6 : data.length ≤ 66000 := by omega
      clear hg2 HSX0 HSY0 HLL h1
      go_enter Tryd.func3, Tryd.ntmps3
      go_wp2_with fail
      refine (HF.out _).mono ?_
      rintro e w1 ⟨rfl, hk1⟩
      have HK1 := Lib.hid (HKA.out.trans hk1 (fun _ _ h => h))
      have HR1 := Lib.hid (HRA.out.keeps hk1 (fun h => h))
      clear hk1 HF
      have HK3 := HK1
      have HR3 := HR1
      clear HK1 HR1
      have hka5 := HK3.out.alloc (.cells #[.slice da data.length dc] 25)
      have HBO := Lib.hid (both_any _ [data] _ (by have h := (BBAt.one (T := 25) (BRd.keeps HD.out HK3.out)).low; exact h) (by simp; omega))
      have HKA5 := Lib.hid hka5
      have HRA5 := Lib.hid (HR3.out.alloc (.cells #[.slice da data.length dc] 25))
      clear hka5 HR3
      go_wp2_with fail
      refine HBO.out.mono ?_
      rintro e w5 ⟨v5, rfl, ho5, hk5⟩
      rw [show [data].flatten = data by simp] at ho5
      obtain ⟨ao, co, rfl, -, -⟩ := ho5.slice
      have HOWN5 := Lib.hid (show BRd w5 _ data from ho5.bat.low)
      have HK5 := Lib.hid (HKA5.out.trans hk5 (fun _ _ h => h))
      have HR5 := Lib.hid (HRA5.out.keeps hk5 (fun h => h))
      clear ho5 hk5 HBO HKA5 HRA5 HK3
      have HSX := Lib.hid (HSP.out _ _ HOWN5.out (HT.out.keeps HK5.out))
      have d0 := (HR5.out).cell 0
      have d1 := (HR5.out).cell 1
      have d2 := (HR5.out).cell 2
      have d3 := (HR5.out).cell 3
      have d4 := (HR5.out).cell 4
      have d5 := (HR5.out).cell 5
      go_wp2_with fail
      refine HSX.out.mono ?_
      rintro e w6 ⟨v6, rfl, ho6, hk6⟩
      obtain ⟨aS, cS, rfl, -, -⟩ := ho6.slice
      have HS6 := Lib.hid (show BRd w6 _ S from ho6.bat.low)
      have HOWN6 := Lib.hid (BRd.keeps HOWN5.out hk6)
      have HK6 := Lib.hid (HK5.out.trans hk6 (fun _ _ h => h))
      have HR6 := Lib.hid (HR5.out.keeps hk6 (fun h => h))
      clear ho6 hk6 HSX HSP HOWN5 HK5 HR5 d0 d1 d2 d3 d4 d5
      have HSX := Lib.hid (HSR.out _ _ (BRd.keeps HD.out HK6.out))
      have d0 := (HR6.out).cell 0
      have d1 := (HR6.out).cell 1
      have d2 := (HR6.out).cell 2
      have d3 := (HR6.out).cell 3
      have d4 := (HR6.out).cell 4
      have d5 := (HR6.out).cell 5
      go_wp2_with fail
      refine HSX.out.mono ?_
      rintro e w7 ⟨v7, rfl, ho7, hk7⟩
      obtain ⟨aR, cR, rfl, -, -⟩ := ho7.slice
      have HC7 := Lib.hid (show BRd w7 _ S from ho7.bat.low)
      have HS7 := Lib.hid (BRd.keeps HS6.out hk7)
      have HOWN7 := Lib.hid (BRd.keeps HOWN6.out hk7)
      have HK7 := Lib.hid (HK6.out.trans hk7 (fun _ _ h => h))
      have HR7 := Lib.hid (HR6.out.keeps hk7 (fun h => h))
      clear ho7 hk7 HSX HSR HOWN6 HK6 HR6 HS6 d0 d1 d2 d3 d4 d5
      go_wp2
      refine region_T [] (fun _ => True) (by kernel_rfl) ?_
      have hC : (fun _ : World => True) w7.drew := trivial
      refine anyT_force (i := 0) rfl (by kernel_rfl) (by rfl) ?_
      go_simp
      refine (HAW.out _ (HT.out.keeps HK7.out.drew)).mono ?_
      rintro e w9 ⟨rfl, hk9⟩
      have hk79 : Keeps (fun _ => False) w7 w9 := (Keeps.refl (fun _ => False) w7).drew.trans hk9 (fun _ _ h => h)
      have HK9 := Lib.hid (HK7.out.trans hk79 (fun _ _ h => h))
      have HR9 := Lib.hid (HR7.out.keeps hk79 (fun h => h))
      have HOWN := Lib.hid (BRd.keeps HOWN7.out hk79)
      have HS9 := Lib.hid (BRd.keeps HS7.out hk79)
      have HC9 := Lib.hid (BRd.keeps HC7.out hk79)
      have HD9 := Lib.hid (BRd.keeps HD.out HK9.out)
      clear hk9 hk79 HK7 HR7 HOWN7 HS7 HC7 HAW
      have hC : (fun _ : World => True) w9 := trivial
      try simp only [Act.put, List.getElem_toArray, List.getElem_cons_succ, List.getElem_cons_zero, List.setIfInBounds_toArray, List.set_cons_zero, List.set_cons_succ]
      refine anyT_take0 (i := 1) (v := ?_) rfl (by kernel_rfl) (by kernel_rfl) (by kernel_rfl) (by kernel_rfl) (by kernel_rfl) (fun _ _ _ h => h) hC (.inl ⟨by rfl, fun _ _ => ?_⟩) ?_
      rotate_left 1
      · go_simp
        try with_reducible rfl
      simp only [Act.put, List.getElem_toArray, List.getElem_cons_succ, List.getElem_cons_zero, List.setIfInBounds_toArray, List.set_cons_zero, List.set_cons_succ]
      refine anyT_take0 (i := 2) (v := ?_) rfl (by kernel_rfl) (by kernel_rfl) (by kernel_rfl) (by kernel_rfl) (by kernel_rfl) (fun _ _ _ h => h) hC (.inl ⟨by rfl, fun _ _ => ?_⟩) ?_
      rotate_left 1
      · go_simp
        try with_reducible rfl
      simp only [Act.put, List.getElem_toArray, List.getElem_cons_succ, List.getElem_cons_zero, List.setIfInBounds_toArray, List.set_cons_zero, List.set_cons_succ]
      refine anyT_take0 (i := 4) (v := ?_) rfl (by kernel_rfl) (by kernel_rfl) (by kernel_rfl) (by kernel_rfl) (by kernel_rfl) (fun _ _ _ h => h) hC (.inl ⟨by rfl, fun _ _ => ?_⟩) ?_
      rotate_left 1
      · go_simp
        try with_reducible rfl
      simp only [Act.put, List.getElem_toArray, List.getElem_cons_succ, List.getElem_cons_zero, List.setIfInBounds_toArray, List.set_cons_zero, List.set_cons_succ]
      refine anyT_par [(3, rEq (.string ⟨data.toArray⟩)), (5, rEq (.string ⟨data.toArray⟩)), (6, rEq (.bool true)), (7, rEq (.bool true)), (8, rEq (.bool true)), (9, rEq (.slice aS S.length cS)), (10, rEq (.string ⟨S.toArray⟩)), (11, rEq (.slice aR S.length cR)), (12, rEq (.string ⟨S.toArray⟩)), (13, rEq (.bool true)), (14, rEq (.bool true)), (15, rEq (.bool true)), (16, rEq (.int .i64 E)), (17, rEq (.int .i64 E)), (18, rEq (.bool true)), (19, rEq (.bool true)), (20, rEq (.bool true)), (21, rEq (.agg SA)), (22, rEq (.int .i64 (mayE mb))), (23, rEq (.bool mb)), (24, rEq (.agg SA)), (25, rEq (.bool mb)), (26, rEq (.bool true)), (27, rEq (.bool true)), (28, rEq (.bool true)), (29, rEq (.int .i64 n)), (30, rEq (.int .i64 L)), (31, rEq (.int .i64 n)), (32, rEq (.int .i64 L)), (33, rEq (.bool true)), (34, rEq (.bool true)), (35, rEq (.bool true))] _ [3, 5, 6, 7, 8, 9, 10, 11, 12, 13, 14, 15, 16, 17, 18, 19, 20, 21, 22, 23, 24, 25, 26, 27, 28, 29, 30, 31, 32, 33, 34, 35] (fun _ => trivial) (by kernel_rfl) rfl (by kernel_rfl) rfl ?_
      refine ⟨_, rfl, fun w2 hk2 hK => ?_, fun u3 => ?_⟩
      rotate_left 1
      simp only [dstOf, Act.put, List.getElem?_toArray, List.getElem?_cons_succ, List.getElem?_cons_zero, Option.bind_some, List.setIfInBounds_toArray, List.set_cons_zero, List.set_cons_succ, List.nil_append, List.cons_append]
      rotate_left 1
      · have tx := (BRd.keeps HOWN.out hk2).text
        go_wp2_with fail
        exact ⟨_, rfl, rfl, Keeps.refl _ _⟩
      refine ⟨_, rfl, fun w2 hk2 hK => ?_, fun u5 => ?_⟩
      rotate_left 1
      simp only [dstOf, Act.put, List.getElem?_toArray, List.getElem?_cons_succ, List.getElem?_cons_zero, Option.bind_some, List.setIfInBounds_toArray, List.set_cons_zero, List.set_cons_succ, List.nil_append, List.cons_append]
      rotate_left 1
      · have tx := (BRd.keeps HD9.out hk2).text
        go_wp2_with fail
        exact ⟨_, rfl, rfl, Keeps.refl _ _⟩
      refine ⟨_, rfl, fun w2 hk2 hK => ?_, fun u6 => ?_⟩
      rotate_left 1
      simp only [dstOf, Act.put, List.getElem?_toArray, List.getElem?_cons_succ, List.getElem?_cons_zero, Option.bind_some, List.setIfInBounds_toArray, List.set_cons_zero, List.set_cons_succ, List.nil_append, List.cons_append]
      rotate_left 1
      · obtain rfl : u3 = (.string ⟨data.toArray⟩) := hK (3, u3) (by simp) (by kernel_rfl)
        obtain rfl : u5 = (.string ⟨data.toArray⟩) := hK (5, u5) (by simp) (by kernel_rfl)
        go_wp2
        exact ⟨_, rfl, rfl, Keeps.refl _ _⟩
      refine ⟨_, rfl, fun w2 hk2 hK => ?_, fun u7 => ?_⟩
      rotate_left 1
      simp only [dstOf, Act.put, List.getElem?_toArray, List.getElem?_cons_succ, List.getElem?_cons_zero, Option.bind_some, List.setIfInBounds_toArray, List.set_cons_zero, List.set_cons_succ, List.nil_append, List.cons_append]
      rotate_left 1
      · obtain rfl : u6 = (.bool true) := hK (6, u6) (by simp) (by kernel_rfl)
        go_wp2
        exact ⟨_, rfl, rfl, Keeps.refl _ _⟩
      refine ⟨_, rfl, fun w2 hk2 hK => ?_, fun u8 => ?_⟩
      rotate_left 1
      simp only [dstOf, Act.put, List.getElem?_toArray, List.getElem?_cons_succ, List.getElem?_cons_zero, Option.bind_some, List.setIfInBounds_toArray, List.set_cons_zero, List.set_cons_succ, List.nil_append, List.cons_append]
      rotate_left 1
      · obtain rfl : u7 = (.bool true) := hK (7, u7) (by simp) (by kernel_rfl)
        go_wp2
        exact ⟨_, rfl, rfl, Keeps.refl _ _⟩
      refine ⟨_, rfl, fun w2 hk2 hK => ?_, fun u9 => ?_⟩
      rotate_left 1
      simp only [dstOf, Act.put, List.getElem?_toArray, List.getElem?_cons_succ, List.getElem?_cons_zero, Option.bind_some, List.setIfInBounds_toArray, List.set_cons_zero, List.set_cons_succ, List.nil_append, List.cons_append]
      rotate_left 1
      · obtain rfl : u8 = (.bool true) := hK (8, u8) (by simp) (by kernel_rfl)
        go_wp2
        exact ⟨_, rfl, rfl, Keeps.refl _ _⟩
      refine ⟨_, rfl, fun w2 hk2 hK => ?_, fun u10 => ?_⟩
      rotate_left 1
      simp only [dstOf, Act.put, List.getElem?_toArray, List.getElem?_cons_succ, List.getElem?_cons_zero, Option.bind_some, List.setIfInBounds_toArray, List.set_cons_zero, List.set_cons_succ, List.nil_append, List.cons_append]
      rotate_left 1
      · obtain rfl : u9 = (.slice aS S.length cS) := hK (9, u9) (by simp) (by kernel_rfl)
        obtain rfl : u8 = (.bool true) := hK (8, u8) (by simp) (by kernel_rfl)
        have tx := (BRd.keeps HS9.out hk2).text
        go_wp2_with fail
        exact ⟨_, rfl, rfl, Keeps.refl _ _⟩
      refine ⟨_, rfl, fun w2 hk2 hK => ?_, fun u11 => ?_⟩
      rotate_left 1
      simp only [dstOf, Act.put, List.getElem?_toArray, List.getElem?_cons_succ, List.getElem?_cons_zero, Option.bind_some, List.setIfInBounds_toArray, List.set_cons_zero, List.set_cons_succ, List.nil_append, List.cons_append]
      rotate_left 1
      · obtain rfl : u8 = (.bool true) := hK (8, u8) (by simp) (by kernel_rfl)
        go_wp2
        exact ⟨_, rfl, rfl, Keeps.refl _ _⟩
      refine ⟨_, rfl, fun w2 hk2 hK => ?_, fun u12 => ?_⟩
      rotate_left 1
      simp only [dstOf, Act.put, List.getElem?_toArray, List.getElem?_cons_succ, List.getElem?_cons_zero, Option.bind_some, List.setIfInBounds_toArray, List.set_cons_zero, List.set_cons_succ, List.nil_append, List.cons_append]
      rotate_left 1
      · obtain rfl : u11 = (.slice aR S.length cR) := hK (11, u11) (by simp) (by kernel_rfl)
        obtain rfl : u8 = (.bool true) := hK (8, u8) (by simp) (by kernel_rfl)
        have tx := (BRd.keeps HC9.out hk2).text
        go_wp2_with fail
        exact ⟨_, rfl, rfl, Keeps.refl _ _⟩
      refine ⟨_, rfl, fun w2 hk2 hK => ?_, fun u13 => ?_⟩
      rotate_left 1
      simp only [dstOf, Act.put, List.getElem?_toArray, List.getElem?_cons_succ, List.getElem?_cons_zero, Option.bind_some, List.setIfInBounds_toArray, List.set_cons_zero, List.set_cons_succ, List.nil_append, List.cons_append]
      rotate_left 1
      · obtain rfl : u10 = (.string ⟨S.toArray⟩) := hK (10, u10) (by simp) (by kernel_rfl)
        obtain rfl : u12 = (.string ⟨S.toArray⟩) := hK (12, u12) (by simp) (by kernel_rfl)
        obtain rfl : u8 = (.bool true) := hK (8, u8) (by simp) (by kernel_rfl)
        go_wp2
        exact ⟨_, rfl, rfl, Keeps.refl _ _⟩
      refine ⟨_, rfl, fun w2 hk2 hK => ?_, fun u14 => ?_⟩
      rotate_left 1
      simp only [dstOf, Act.put, List.getElem?_toArray, List.getElem?_cons_succ, List.getElem?_cons_zero, Option.bind_some, List.setIfInBounds_toArray, List.set_cons_zero, List.set_cons_succ, List.nil_append, List.cons_append]
      rotate_left 1
      · obtain rfl : u8 = (.bool true) := hK (8, u8) (by simp) (by kernel_rfl)
        obtain rfl : u13 = (.bool true) := hK (13, u13) (by simp) (by kernel_rfl)
        go_wp2
        exact ⟨_, rfl, rfl, Keeps.refl _ _⟩
      refine ⟨_, rfl, fun w2 hk2 hK => ?_, fun u15 => ?_⟩
      rotate_left 1
      simp only [dstOf, Act.put, List.getElem?_toArray, List.getElem?_cons_succ, List.getElem?_cons_zero, Option.bind_some, List.setIfInBounds_toArray, List.set_cons_zero, List.set_cons_succ, List.nil_append, List.cons_append]
      rotate_left 1
      · obtain rfl : u14 = (.bool true) := hK (14, u14) (by simp) (by kernel_rfl)
        go_wp2
        exact ⟨_, rfl, rfl, Keeps.refl _ _⟩
      refine ⟨_, rfl, fun w2 hk2 hK => ?_, fun u16 => ?_⟩
      rotate_left 1
      simp only [dstOf, Act.put, List.getElem?_toArray, List.getElem?_cons_succ, List.getElem?_cons_zero, Option.bind_some, List.setIfInBounds_toArray, List.set_cons_zero, List.set_cons_succ, List.nil_append, List.cons_append]
      rotate_left 1
      · obtain rfl : u15 = (.bool true) := hK (15, u15) (by simp) (by kernel_rfl)
        go_wp2
        exact ⟨_, rfl, rfl, Keeps.refl _ _⟩
      refine ⟨_, rfl, fun w2 hk2 hK => ?_, fun u17 => ?_⟩
      rotate_left 1
      simp only [dstOf, Act.put, List.getElem?_toArray, List.getElem?_cons_succ, List.getElem?_cons_zero, Option.bind_some, List.setIfInBounds_toArray, List.set_cons_zero, List.set_cons_succ, List.nil_append, List.cons_append]
      rotate_left 1
      · obtain rfl : u15 = (.bool true) := hK (15, u15) (by simp) (by kernel_rfl)
        go_wp2
        exact ⟨_, rfl, rfl, Keeps.refl _ _⟩
      refine ⟨_, rfl, fun w2 hk2 hK => ?_, fun u18 => ?_⟩
      rotate_left 1
      simp only [dstOf, Act.put, List.getElem?_toArray, List.getElem?_cons_succ, List.getElem?_cons_zero, Option.bind_some, List.setIfInBounds_toArray, List.set_cons_zero, List.set_cons_succ, List.nil_append, List.cons_append]
      rotate_left 1
      · obtain rfl : u16 = (.int .i64 E) := hK (16, u16) (by simp) (by kernel_rfl)
        obtain rfl : u17 = (.int .i64 E) := hK (17, u17) (by simp) (by kernel_rfl)
        obtain rfl : u15 = (.bool true) := hK (15, u15) (by simp) (by kernel_rfl)
        go_wp2
        exact ⟨_, rfl, rfl, Keeps.refl _ _⟩
      refine ⟨_, rfl, fun w2 hk2 hK => ?_, fun u19 => ?_⟩
      rotate_left 1
      simp only [dstOf, Act.put, List.getElem?_toArray, List.getElem?_cons_succ, List.getElem?_cons_zero, Option.bind_some, List.setIfInBounds_toArray, List.set_cons_zero, List.set_cons_succ, List.nil_append, List.cons_append]
      rotate_left 1
      · obtain rfl : u15 = (.bool true) := hK (15, u15) (by simp) (by kernel_rfl)
        obtain rfl : u18 = (.bool true) := hK (18, u18) (by simp) (by kernel_rfl)
        go_wp2
        exact ⟨_, rfl, rfl, Keeps.refl _ _⟩
      refine ⟨_, rfl, fun w2 hk2 hK => ?_, fun u20 => ?_⟩
      rotate_left 1
      simp only [dstOf, Act.put, List.getElem?_toArray, List.getElem?_cons_succ, List.getElem?_cons_zero, Option.bind_some, List.setIfInBounds_toArray, List.set_cons_zero, List.set_cons_succ, List.nil_append, List.cons_append]
      rotate_left 1
      · obtain rfl : u19 = (.bool true) := hK (19, u19) (by simp) (by kernel_rfl)
        go_wp2
        exact ⟨_, rfl, rfl, Keeps.refl _ _⟩
      refine ⟨_, rfl, fun w2 hk2 hK => ?_, fun u21 => ?_⟩
      rotate_left 1
      simp only [dstOf, Act.put, List.getElem?_toArray, List.getElem?_cons_succ, List.getElem?_cons_zero, Option.bind_some, List.setIfInBounds_toArray, List.set_cons_zero, List.set_cons_succ, List.nil_append, List.cons_append]
      rotate_left 1
      · obtain rfl : u20 = (.bool true) := hK (20, u20) (by simp) (by kernel_rfl)
        obtain ⟨d0, d1, d2, d3, d4, d5⟩ := boxS_cells (HR9.out.keeps hk2 (fun h => h))
        go_wp2
        exact ⟨_, rfl, HSA.out.symm ▸ rfl, Keeps.refl _ _⟩
      refine ⟨_, rfl, fun w2 hk2 hK => ?_, fun u22 => ?_⟩
      rotate_left 1
      simp only [dstOf, Act.put, List.getElem?_toArray, List.getElem?_cons_succ, List.getElem?_cons_zero, Option.bind_some, List.setIfInBounds_toArray, List.set_cons_zero, List.set_cons_succ, List.nil_append, List.cons_append]
      rotate_left 1
      · obtain rfl : u21 = (.agg SA) := hK (21, u21) (by simp) (by kernel_rfl)
        obtain rfl : u20 = (.bool true) := hK (20, u20) (by simp) (by kernel_rfl)
        go_wp2_with fail
        refine (HCK.out _).mono ?_
        rintro e w3 ⟨rfl, hk3⟩
        go_wp2
        exact ⟨_, rfl, rfl, hk3⟩
      refine ⟨_, rfl, fun w2 hk2 hK => ?_, fun u23 => ?_⟩
      rotate_left 1
      simp only [dstOf, Act.put, List.getElem?_toArray, List.getElem?_cons_succ, List.getElem?_cons_zero, Option.bind_some, List.setIfInBounds_toArray, List.set_cons_zero, List.set_cons_succ, List.nil_append, List.cons_append]
      rotate_left 1
      · obtain rfl : u22 = (.int .i64 (mayE mb)) := hK (22, u22) (by simp) (by kernel_rfl)
        obtain rfl : u20 = (.bool true) := hK (20, u20) (by simp) (by kernel_rfl)
        cases mb with
        | true => (rw [show mayE true = 0 from rfl]; go_wp2; exact ⟨_, rfl, rfl, Keeps.refl _ _⟩)
        | false => (rw [show mayE false = 1 from rfl]; go_wp2; exact ⟨_, rfl, rfl, Keeps.refl _ _⟩)
      refine ⟨_, rfl, fun w2 hk2 hK => ?_, fun u24 => ?_⟩
      rotate_left 1
      simp only [dstOf, Act.put, List.getElem?_toArray, List.getElem?_cons_succ, List.getElem?_cons_zero, Option.bind_some, List.setIfInBounds_toArray, List.set_cons_zero, List.set_cons_succ, List.nil_append, List.cons_append]
      rotate_left 1
      · obtain rfl : u20 = (.bool true) := hK (20, u20) (by simp) (by kernel_rfl)
        obtain ⟨d0, d1, d2, d3, d4, d5⟩ := boxS_cells (HR9.out.keeps hk2 (fun h => h))
        go_wp2
        exact ⟨_, rfl, HSA.out.symm ▸ rfl, Keeps.refl _ _⟩
      refine ⟨_, rfl, fun w2 hk2 hK => ?_, fun u25 => ?_⟩
      rotate_left 1
      simp only [dstOf, Act.put, List.getElem?_toArray, List.getElem?_cons_succ, List.getElem?_cons_zero, Option.bind_some, List.setIfInBounds_toArray, List.set_cons_zero, List.set_cons_succ, List.nil_append, List.cons_append]
      rotate_left 1
      · obtain rfl : u24 = (.agg SA) := hK (24, u24) (by simp) (by kernel_rfl)
        obtain rfl : u20 = (.bool true) := hK (20, u20) (by simp) (by kernel_rfl)
        go_wp2_with fail
        refine (HMY.out _).mono ?_
        rintro e w3 ⟨rfl, hk3⟩
        go_wp2
        exact ⟨_, rfl, rfl, hk3⟩
      refine ⟨_, rfl, fun w2 hk2 hK => ?_, fun u26 => ?_⟩
      rotate_left 1
      simp only [dstOf, Act.put, List.getElem?_toArray, List.getElem?_cons_succ, List.getElem?_cons_zero, Option.bind_some, List.setIfInBounds_toArray, List.set_cons_zero, List.set_cons_succ, List.nil_append, List.cons_append]
      rotate_left 1
      · obtain rfl : u23 = (.bool mb) := hK (23, u23) (by simp) (by kernel_rfl)
        obtain rfl : u25 = (.bool mb) := hK (25, u25) (by simp) (by kernel_rfl)
        obtain rfl : u20 = (.bool true) := hK (20, u20) (by simp) (by kernel_rfl)
        cases mb <;> (go_wp2; exact ⟨_, rfl, rfl, Keeps.refl _ _⟩)
      refine ⟨_, rfl, fun w2 hk2 hK => ?_, fun u27 => ?_⟩
      rotate_left 1
      simp only [dstOf, Act.put, List.getElem?_toArray, List.getElem?_cons_succ, List.getElem?_cons_zero, Option.bind_some, List.setIfInBounds_toArray, List.set_cons_zero, List.set_cons_succ, List.nil_append, List.cons_append]
      rotate_left 1
      · obtain rfl : u20 = (.bool true) := hK (20, u20) (by simp) (by kernel_rfl)
        obtain rfl : u26 = (.bool true) := hK (26, u26) (by simp) (by kernel_rfl)
        go_wp2
        exact ⟨_, rfl, rfl, Keeps.refl _ _⟩
      refine ⟨_, rfl, fun w2 hk2 hK => ?_, fun u28 => ?_⟩
      rotate_left 1
      simp only [dstOf, Act.put, List.getElem?_toArray, List.getElem?_cons_succ, List.getElem?_cons_zero, Option.bind_some, List.setIfInBounds_toArray, List.set_cons_zero, List.set_cons_succ, List.nil_append, List.cons_append]
      rotate_left 1
      · obtain rfl : u27 = (.bool true) := hK (27, u27) (by simp) (by kernel_rfl)
        go_wp2
        exact ⟨_, rfl, rfl, Keeps.refl _ _⟩
      refine ⟨_, rfl, fun w2 hk2 hK => ?_, fun u29 => ?_⟩
      rotate_left 1
      simp only [dstOf, Act.put, List.getElem?_toArray, List.getElem?_cons_succ, List.getElem?_cons_zero, Option.bind_some, List.setIfInBounds_toArray, List.set_cons_zero, List.set_cons_succ, List.nil_append, List.cons_append]
      rotate_left 1
      · obtain rfl : u28 = (.bool true) := hK (28, u28) (by simp) (by kernel_rfl)
        go_wp2
        exact ⟨_, rfl, rfl, Keeps.refl _ _⟩
      refine ⟨_, rfl, fun w2 hk2 hK => ?_, fun u30 => ?_⟩
      rotate_left 1
      simp only [dstOf, Act.put, List.getElem?_toArray, List.getElem?_cons_succ, List.getElem?_cons_zero, Option.bind_some, List.setIfInBounds_toArray, List.set_cons_zero, List.set_cons_succ, List.nil_append, List.cons_append]
      rotate_left 1
      · obtain rfl : u29 = (.int .i64 n) := hK (29, u29) (by simp) (by kernel_rfl)
        obtain rfl : u28 = (.bool true) := hK (28, u28) (by simp) (by kernel_rfl)
        go_wp2_with fail
        refine (HL1.out _).mono ?_
        rintro e w3 ⟨rfl, rfl⟩
        go_wp2
        exact ⟨_, rfl, rfl, Keeps.refl _ _⟩
      refine ⟨_, rfl, fun w2 hk2 hK => ?_, fun u31 => ?_⟩
      rotate_left 1
      simp only [dstOf, Act.put, List.getElem?_toArray, List.getElem?_cons_succ, List.getElem?_cons_zero, Option.bind_some, List.setIfInBounds_toArray, List.set_cons_zero, List.set_cons_succ, List.nil_append, List.cons_append]
      rotate_left 1
      · obtain rfl : u28 = (.bool true) := hK (28, u28) (by simp) (by kernel_rfl)
        go_wp2
        exact ⟨_, rfl, rfl, Keeps.refl _ _⟩
      refine ⟨_, rfl, fun w2 hk2 hK => ?_, fun u32 => ?_⟩
      rotate_left 1
      simp only [dstOf, Act.put, List.getElem?_toArray, List.getElem?_cons_succ, List.getElem?_cons_zero, Option.bind_some, List.setIfInBounds_toArray, List.set_cons_zero, List.set_cons_succ, List.nil_append, List.cons_append]
      rotate_left 1
      · obtain rfl : u31 = (.int .i64 n) := hK (31, u31) (by simp) (by kernel_rfl)
        obtain rfl : u28 = (.bool true) := hK (28, u28) (by simp) (by kernel_rfl)
        go_wp2_with fail
        refine (HL2.out _).mono ?_
        rintro e w3 ⟨rfl, rfl⟩
        go_wp2
        exact ⟨_, rfl, rfl, Keeps.refl _ _⟩
      refine ⟨_, rfl, fun w2 hk2 hK => ?_, fun u33 => ?_⟩
      rotate_left 1
      simp only [dstOf, Act.put, List.getElem?_toArray, List.getElem?_cons_succ, List.getElem?_cons_zero, Option.bind_some, List.setIfInBounds_toArray, List.set_cons_zero, List.set_cons_succ, List.nil_append, List.cons_append]
      rotate_left 1
      · obtain rfl : u30 = (.int .i64 L) := hK (30, u30) (by simp) (by kernel_rfl)
        obtain rfl : u32 = (.int .i64 L) := hK (32, u32) (by simp) (by kernel_rfl)
        obtain rfl : u28 = (.bool true) := hK (28, u28) (by simp) (by kernel_rfl)
        go_wp2
        exact ⟨_, rfl, rfl, Keeps.refl _ _⟩
      refine ⟨_, rfl, fun w2 hk2 hK => ?_, fun u34 => ?_⟩
      rotate_left 1
      simp only [dstOf, Act.put, List.getElem?_toArray, List.getElem?_cons_succ, List.getElem?_cons_zero, Option.bind_some, List.setIfInBounds_toArray, List.set_cons_zero, List.set_cons_succ, List.nil_append, List.cons_append]
      rotate_left 1
      · obtain rfl : u28 = (.bool true) := hK (28, u28) (by simp) (by kernel_rfl)
        obtain rfl : u33 = (.bool true) := hK (33, u33) (by simp) (by kernel_rfl)
        go_wp2
        exact ⟨_, rfl, rfl, Keeps.refl _ _⟩
      refine ⟨_, rfl, fun w2 hk2 hK => ?_, fun u35 => ?_⟩
      rotate_left 1
      simp only [dstOf, Act.put, List.getElem?_toArray, List.getElem?_cons_succ, List.getElem?_cons_zero, Option.bind_some, List.setIfInBounds_toArray, List.set_cons_zero, List.set_cons_succ, List.nil_append, List.cons_append]
      rotate_left 1
      · obtain rfl : u34 = (.bool true) := hK (34, u34) (by simp) (by kernel_rfl)
        go_wp2
        exact ⟨_, rfl, rfl, Keeps.refl _ _⟩
      intro w3 hk3 hK
      obtain rfl : u35 = .bool true := hK (35, u35) (by simp)
      have HKF := Lib.hid (HK9.out.trans hk3 (fun _ _ h => h))
      clear hK hk3
      go_wp2
      go_ret
      exact ⟨rfl, HKF.out⟩
    · have hl6 : data.length ≤ 66000 := by omega
      have hI : (300 : Int) < (data.length : Int) := by omega
      have hI2 : (65400 : Int) ≤ (data.length : Int) := by omega
      have hI3 : (data.length : Int) ≤ 66000 := by omega
      have HLX := Lib.hid (fun w => HLL.out w hl6)
      by_cases h2 : 65535 < lenS data.length
      · have HSP := Lib.hid (fun (w : World) (v : Value) (hd : BRd w v data) (hT : Table w) => HSX0.out w v hd hT (.inr ⟨h2, hl6⟩))
        have HSR := Lib.hid (fun (w : World) (v : Value) (hd : BRd w v data) => HSY0.out w v hd (.inr ⟨h2, hl6⟩))
        have h2I : (65535 : Int) < (lenS data.length : Nat) := by omega
        generalize lenS data.length = LS at *
        clear hg2 HSX0 HSY0 HLL h1 h2
        go_enter Tryd.func3, Tryd.ntmps3
        go_wp2_with fail
        refine (HF.out _).mono ?_
        rintro e w1 ⟨rfl, hk1⟩
        have HK1 := Lib.hid (HKA.out.trans hk1 (fun _ _ h => h))
        have HR1 := Lib.hid (HRA.out.keeps hk1 (fun h => h))
        clear hk1 HF
        go_wp2_with fail
        refine (HLX.out _).mono ?_
        rintro e w3 ⟨rfl, rfl⟩
        have HK3 := HK1
        have HR3 := HR1
        clear HK1 HR1
        have hka5 := HK3.out.alloc (.cells #[.slice da data.length dc] 25)
        have HBO := Lib.hid (both_any _ [data] _ (by have h := (BBAt.one (T := 25) (BRd.keeps HD.out HK3.out)).low; exact h) (by simp; omega))
        have HKA5 := Lib.hid hka5
        have HRA5 := Lib.hid (HR3.out.alloc (.cells #[.slice da data.length dc] 25))
        clear hka5 HR3
        go_wp2_with fail
        refine HBO.out.mono ?_
        rintro e w5 ⟨v5, rfl, ho5, hk5⟩
        rw [show [data].flatten = data by simp] at ho5
        obtain ⟨ao, co, rfl, -, -⟩ := ho5.slice
        have HOWN5 := Lib.hid (show BRd w5 _ data from ho5.bat.low)
        have HK5 := Lib.hid (HKA5.out.trans hk5 (fun _ _ h => h))
        have HR5 := Lib.hid (HRA5.out.keeps hk5 (fun h => h))
        clear ho5 hk5 HBO HKA5 HRA5 HK3
        have HSX := Lib.hid (HSP.out _ _ HOWN5.out (HT.out.keeps HK5.out))
        have d0 := (HR5.out).cell 0
        have d1 := (HR5.out).cell 1
        have d2 := (HR5.out).cell 2
        have d3 := (HR5.out).cell 3
        have d4 := (HR5.out).cell 4
        have d5 := (HR5.out).cell 5
        go_wp2_with fail
        refine HSX.out.mono ?_
        rintro e w6 ⟨v6, rfl, ho6, hk6⟩
        obtain ⟨aS, cS, rfl, -, -⟩ := ho6.slice
        have HS6 := Lib.hid (show BRd w6 _ S from ho6.bat.low)
        have HOWN6 := Lib.hid (BRd.keeps HOWN5.out hk6)
        have HK6 := Lib.hid (HK5.out.trans hk6 (fun _ _ h => h))
        have HR6 := Lib.hid (HR5.out.keeps hk6 (fun h => h))
        clear ho6 hk6 HSX HSP HOWN5 HK5 HR5 d0 d1 d2 d3 d4 d5
        have HSX := Lib.hid (HSR.out _ _ (BRd.keeps HD.out HK6.out))
        have d0 := (HR6.out).cell 0
        have d1 := (HR6.out).cell 1
        have d2 := (HR6.out).cell 2
        have d3 := (HR6.out).cell 3
        have d4 := (HR6.out).cell 4
        have d5 := (HR6.out).cell 5
        go_wp2_with fail
        refine HSX.out.mono ?_
        rintro e w7 ⟨v7, rfl, ho7, hk7⟩
        obtain ⟨aR, cR, rfl, -, -⟩ := ho7.slice
        have HC7 := Lib.hid (show BRd w7 _ S from ho7.bat.low)
        have HS7 := Lib.hid (BRd.keeps HS6.out hk7)
        have HOWN7 := Lib.hid (BRd.keeps HOWN6.out hk7)
        have HK7 := Lib.hid (HK6.out.trans hk7 (fun _ _ h => h))
        have HR7 := Lib.hid (HR6.out.keeps hk7 (fun h => h))
        clear ho7 hk7 HSX HSR HOWN6 HK6 HR6 HS6 d0 d1 d2 d3 d4 d5
        go_wp2
        refine region_T [] (fun _ => True) (by kernel_rfl) ?_
        have hC : (fun _ : World => True) w7.drew := trivial
        refine anyT_force (i := 0) rfl (by kernel_rfl) (by rfl) ?_
        go_simp
        refine (HAW.out _ (HT.out.keeps HK7.out.drew)).mono ?_
        rintro e w9 ⟨rfl, hk9⟩
        have hk79 : Keeps (fun _ => False) w7 w9 := (Keeps.refl (fun _ => False) w7).drew.trans hk9 (fun _ _ h => h)
        have HK9 := Lib.hid (HK7.out.trans hk79 (fun _ _ h => h))
        have HR9 := Lib.hid (HR7.out.keeps hk79 (fun h => h))
        have HOWN := Lib.hid (BRd.keeps HOWN7.out hk79)
        have HS9 := Lib.hid (BRd.keeps HS7.out hk79)
        have HC9 := Lib.hid (BRd.keeps HC7.out hk79)
        have HD9 := Lib.hid (BRd.keeps HD.out HK9.out)
        clear hk9 hk79 HK7 HR7 HOWN7 HS7 HC7 HAW
        have hC : (fun _ : World => True) w9 := trivial
        try simp only [Act.put, List.getElem_toArray, List.getElem_cons_succ, List.getElem_cons_zero, List.setIfInBounds_toArray, List.set_cons_zero, List.set_cons_succ]
        refine anyT_take0 (i := 1) (v := ?_) rfl (by kernel_rfl) (by kernel_rfl) (by kernel_rfl) (by kernel_rfl) (by kernel_rfl) (fun _ _ _ h => h) hC (.inl ⟨by rfl, fun _ _ => ?_⟩) ?_
        rotate_left 1
        · go_simp
          try with_reducible rfl
        simp only [Act.put, List.getElem_toArray, List.getElem_cons_succ, List.getElem_cons_zero, List.setIfInBounds_toArray, List.set_cons_zero, List.set_cons_succ]
        refine anyT_take0 (i := 2) (v := ?_) rfl (by kernel_rfl) (by kernel_rfl) (by kernel_rfl) (by kernel_rfl) (by kernel_rfl) (fun _ _ _ h => h) hC (.inl ⟨by rfl, fun _ _ => ?_⟩) ?_
        rotate_left 1
        · go_simp
          try with_reducible rfl
        simp only [Act.put, List.getElem_toArray, List.getElem_cons_succ, List.getElem_cons_zero, List.setIfInBounds_toArray, List.set_cons_zero, List.set_cons_succ]
        refine anyT_take0 (i := 4) (v := ?_) rfl (by kernel_rfl) (by kernel_rfl) (by kernel_rfl) (by kernel_rfl) (by kernel_rfl) (fun _ _ _ h => h) hC (.inl ⟨by rfl, fun _ _ => ?_⟩) ?_
        rotate_left 1
        · go_simp
          try with_reducible rfl
        simp only [Act.put, List.getElem_toArray, List.getElem_cons_succ, List.getElem_cons_zero, List.setIfInBounds_toArray, List.set_cons_zero, List.set_cons_succ]
        refine anyT_par [(3, rEq (.string ⟨data.toArray⟩)), (5, rEq (.string ⟨data.toArray⟩)), (6, rEq (.bool true)), (7, rEq (.bool true)), (8, rEq (.bool true)), (9, rEq (.slice aS S.length cS)), (10, rEq (.string ⟨S.toArray⟩)), (11, rEq (.slice aR S.length cR)), (12, rEq (.string ⟨S.toArray⟩)), (13, rEq (.bool true)), (14, rEq (.bool true)), (15, rEq (.bool true)), (16, rEq (.int .i64 E)), (17, rEq (.int .i64 E)), (18, rEq (.bool true)), (19, rEq (.bool true)), (20, rEq (.bool true)), (21, rEq (.agg SA)), (22, rEq (.int .i64 (mayE mb))), (23, rEq (.bool mb)), (24, rEq (.agg SA)), (25, rEq (.bool mb)), (26, rEq (.bool true)), (27, rEq (.bool true)), (28, rEq (.bool true)), (29, rEq (.int .i64 n)), (30, rEq (.int .i64 L)), (31, rEq (.int .i64 n)), (32, rEq (.int .i64 L)), (33, rEq (.bool true)), (34, rEq (.bool true)), (35, rEq (.bool true))] _ [3, 5, 6, 7, 8, 9, 10, 11, 12, 13, 14, 15, 16, 17, 18, 19, 20, 21, 22, 23, 24, 25, 26, 27, 28, 29, 30, 31, 32, 33, 34, 35] (fun _ => trivial) (by kernel_rfl) rfl (by kernel_rfl) rfl ?_
        refine ⟨_, rfl, fun w2 hk2 hK => ?_, fun u3 => ?_⟩
        rotate_left 1
        simp only [dstOf, Act.put, List.getElem?_toArray, List.getElem?_cons_succ, List.getElem?_cons_zero, Option.bind_some, List.setIfInBounds_toArray, List.set_cons_zero, List.set_cons_succ, List.nil_append, List.cons_append]
        rotate_left 1
        · have tx := (BRd.keeps HOWN.out hk2).text
          go_wp2_with fail
          exact ⟨_, rfl, rfl, Keeps.refl _ _⟩
        refine ⟨_, rfl, fun w2 hk2 hK => ?_, fun u5 => ?_⟩
        rotate_left 1
        simp only [dstOf, Act.put, List.getElem?_toArray, List.getElem?_cons_succ, List.getElem?_cons_zero, Option.bind_some, List.setIfInBounds_toArray, List.set_cons_zero, List.set_cons_succ, List.nil_append, List.cons_append]
        rotate_left 1
        · have tx := (BRd.keeps HD9.out hk2).text
          go_wp2_with fail
          exact ⟨_, rfl, rfl, Keeps.refl _ _⟩
        refine ⟨_, rfl, fun w2 hk2 hK => ?_, fun u6 => ?_⟩
        rotate_left 1
        simp only [dstOf, Act.put, List.getElem?_toArray, List.getElem?_cons_succ, List.getElem?_cons_zero, Option.bind_some, List.setIfInBounds_toArray, List.set_cons_zero, List.set_cons_succ, List.nil_append, List.cons_append]
        rotate_left 1
        · obtain rfl : u3 = (.string ⟨data.toArray⟩) := hK (3, u3) (by simp) (by kernel_rfl)
          obtain rfl : u5 = (.string ⟨data.toArray⟩) := hK (5, u5) (by simp) (by kernel_rfl)
          go_wp2
          exact ⟨_, rfl, rfl, Keeps.refl _ _⟩
        refine ⟨_, rfl, fun w2 hk2 hK => ?_, fun u7 => ?_⟩
        rotate_left 1
        simp only [dstOf, Act.put, List.getElem?_toArray, List.getElem?_cons_succ, List.getElem?_cons_zero, Option.bind_some, List.setIfInBounds_toArray, List.set_cons_zero, List.set_cons_succ, List.nil_append, List.cons_append]
        rotate_left 1
        · obtain rfl : u6 = (.bool true) := hK (6, u6) (by simp) (by kernel_rfl)
          go_wp2
          exact ⟨_, rfl, rfl, Keeps.refl _ _⟩
        refine ⟨_, rfl, fun w2 hk2 hK => ?_, fun u8 => ?_⟩
        rotate_left 1
        simp only [dstOf, Act.put, List.getElem?_toArray, List.getElem?_cons_succ, List.getElem?_cons_zero, Option.bind_some, List.setIfInBounds_toArray, List.set_cons_zero, List.set_cons_succ, List.nil_append, List.cons_append]
        rotate_left 1
        · obtain rfl : u7 = (.bool true) := hK (7, u7) (by simp) (by kernel_rfl)
          go_wp2
          exact ⟨_, rfl, rfl, Keeps.refl _ _⟩
        refine ⟨_, rfl, fun w2 hk2 hK => ?_, fun u9 => ?_⟩
        rotate_left 1
        simp only [dstOf, Act.put, List.getElem?_toArray, List.getElem?_cons_succ, List.getElem?_cons_zero, Option.bind_some, List.setIfInBounds_toArray, List.set_cons_zero, List.set_cons_succ, List.nil_append, List.cons_append]
        rotate_left 1
        · obtain rfl : u8 = (.bool true) := hK (8, u8) (by simp) (by kernel_rfl)
          go_wp2
          exact ⟨_, rfl, rfl, Keeps.refl _ _⟩
        refine ⟨_, rfl, fun w2 hk2 hK => ?_, fun u10 => ?_⟩
        rotate_left 1
        simp only [dstOf, Act.put, List.getElem?_toArray, List.getElem?_cons_succ, List.getElem?_cons_zero, Option.bind_some, List.setIfInBounds_toArray, List.set_cons_zero, List.set_cons_succ, List.nil_append, List.cons_append]
        rotate_left 1
        · obtain rfl : u9 = (.slice aS S.length cS) := hK (9, u9) (by simp) (by kernel_rfl)
          obtain rfl : u8 = (.bool true) := hK (8, u8) (by simp) (by kernel_rfl)
          have tx := (BRd.keeps HS9.out hk2).text
          go_wp2_with fail
          exact ⟨_, rfl, rfl, Keeps.refl _ _⟩
        refine ⟨_, rfl, fun w2 hk2 hK => ?_, fun u11 => ?_⟩
        rotate_left 1
        simp only [dstOf, Act.put, List.getElem?_toArray, List.getElem?_cons_succ, List.getElem?_cons_zero, Option.bind_some, List.setIfInBounds_toArray, List.set_cons_zero, List.set_cons_succ, List.nil_append, List.cons_append]
        rotate_left 1
        · obtain rfl : u8 = (.bool true) := hK (8, u8) (by simp) (by kernel_rfl)
          go_wp2
          exact ⟨_, rfl, rfl, Keeps.refl _ _⟩
        refine ⟨_, rfl, fun w2 hk2 hK => ?_, fun u12 => ?_⟩
        rotate_left 1
        simp only [dstOf, Act.put, List.getElem?_toArray, List.getElem?_cons_succ, List.getElem?_cons_zero, Option.bind_some, List.setIfInBounds_toArray, List.set_cons_zero, List.set_cons_succ, List.nil_append, List.cons_append]
        rotate_left 1
        · obtain rfl : u11 = (.slice aR S.length cR) := hK (11, u11) (by simp) (by kernel_rfl)
          obtain rfl : u8 = (.bool true) := hK (8, u8) (by simp) (by kernel_rfl)
          have tx := (BRd.keeps HC9.out hk2).text
          go_wp2_with fail
          exact ⟨_, rfl, rfl, Keeps.refl _ _⟩
        refine ⟨_, rfl, fun w2 hk2 hK => ?_, fun u13 => ?_⟩
        rotate_left 1
        simp only [dstOf, Act.put, List.getElem?_toArray, List.getElem?_cons_succ, List.getElem?_cons_zero, Option.bind_some, List.setIfInBounds_toArray, List.set_cons_zero, List.set_cons_succ, List.nil_append, List.cons_append]
        rotate_left 1
        · obtain rfl : u10 = (.string ⟨S.toArray⟩) := hK (10, u10) (by simp) (by kernel_rfl)
          obtain rfl : u12 = (.string ⟨S.toArray⟩) := hK (12, u12) (by simp) (by kernel_rfl)
          obtain rfl : u8 = (.bool true) := hK (8, u8) (by simp) (by kernel_rfl)
          go_wp2
          exact ⟨_, rfl, rfl, Keeps.refl _ _⟩
        refine ⟨_, rfl, fun w2 hk2 hK => ?_, fun u14 => ?_⟩
        rotate_left 1
        simp only [dstOf, Act.put, List.getElem?_toArray, List.getElem?_cons_succ, List.getElem?_cons_zero, Option.bind_some, List.setIfInBounds_toArray, List.set_cons_zero, List.set_cons_succ, List.nil_append, List.cons_append]
        rotate_left 1
        · obtain rfl : u8 = (.bool true) := hK (8, u8) (by simp) (by kernel_rfl)
          obtain rfl : u13 = (.bool true) := hK (13, u13) (by simp) (by kernel_rfl)
          go_wp2
          exact ⟨_, rfl, rfl, Keeps.refl _ _⟩
        refine ⟨_, rfl, fun w2 hk2 hK => ?_, fun u15 => ?_⟩
        rotate_left 1
        simp only [dstOf, Act.put, List.getElem?_toArray, List.getElem?_cons_succ, List.getElem?_cons_zero, Option.bind_some, List.setIfInBounds_toArray, List.set_cons_zero, List.set_cons_succ, List.nil_append, List.cons_append]
        rotate_left 1
        · obtain rfl : u14 = (.bool true) := hK (14, u14) (by simp) (by kernel_rfl)
          go_wp2
          exact ⟨_, rfl, rfl, Keeps.refl _ _⟩
        refine ⟨_, rfl, fun w2 hk2 hK => ?_, fun u16 => ?_⟩
        rotate_left 1
        simp only [dstOf, Act.put, List.getElem?_toArray, List.getElem?_cons_succ, List.getElem?_cons_zero, Option.bind_some, List.setIfInBounds_toArray, List.set_cons_zero, List.set_cons_succ, List.nil_append, List.cons_append]
        rotate_left 1
        · obtain rfl : u15 = (.bool true) := hK (15, u15) (by simp) (by kernel_rfl)
          go_wp2
          exact ⟨_, rfl, rfl, Keeps.refl _ _⟩
        refine ⟨_, rfl, fun w2 hk2 hK => ?_, fun u17 => ?_⟩
        rotate_left 1
        simp only [dstOf, Act.put, List.getElem?_toArray, List.getElem?_cons_succ, List.getElem?_cons_zero, Option.bind_some, List.setIfInBounds_toArray, List.set_cons_zero, List.set_cons_succ, List.nil_append, List.cons_append]
        rotate_left 1
        · obtain rfl : u15 = (.bool true) := hK (15, u15) (by simp) (by kernel_rfl)
          go_wp2
          exact ⟨_, rfl, rfl, Keeps.refl _ _⟩
        refine ⟨_, rfl, fun w2 hk2 hK => ?_, fun u18 => ?_⟩
        rotate_left 1
        simp only [dstOf, Act.put, List.getElem?_toArray, List.getElem?_cons_succ, List.getElem?_cons_zero, Option.bind_some, List.setIfInBounds_toArray, List.set_cons_zero, List.set_cons_succ, List.nil_append, List.cons_append]
        rotate_left 1
        · obtain rfl : u16 = (.int .i64 E) := hK (16, u16) (by simp) (by kernel_rfl)
          obtain rfl : u17 = (.int .i64 E) := hK (17, u17) (by simp) (by kernel_rfl)
          obtain rfl : u15 = (.bool true) := hK (15, u15) (by simp) (by kernel_rfl)
          go_wp2
          exact ⟨_, rfl, rfl, Keeps.refl _ _⟩
        refine ⟨_, rfl, fun w2 hk2 hK => ?_, fun u19 => ?_⟩
        rotate_left 1
        simp only [dstOf, Act.put, List.getElem?_toArray, List.getElem?_cons_succ, List.getElem?_cons_zero, Option.bind_some, List.setIfInBounds_toArray, List.set_cons_zero, List.set_cons_succ, List.nil_append, List.cons_append]
        rotate_left 1
        · obtain rfl : u15 = (.bool true) := hK (15, u15) (by simp) (by kernel_rfl)
          obtain rfl : u18 = (.bool true) := hK (18, u18) (by simp) (by kernel_rfl)
          go_wp2
          exact ⟨_, rfl, rfl, Keeps.refl _ _⟩
        refine ⟨_, rfl, fun w2 hk2 hK => ?_, fun u20 => ?_⟩
        rotate_left 1
        simp only [dstOf, Act.put, List.getElem?_toArray, List.getElem?_cons_succ, List.getElem?_cons_zero, Option.bind_some, List.setIfInBounds_toArray, List.set_cons_zero, List.set_cons_succ, List.nil_append, List.cons_append]
        rotate_left 1
        · obtain rfl : u19 = (.bool true) := hK (19, u19) (by simp) (by kernel_rfl)
          go_wp2
          exact ⟨_, rfl, rfl, Keeps.refl _ _⟩
        refine ⟨_, rfl, fun w2 hk2 hK => ?_, fun u21 => ?_⟩
        rotate_left 1
        simp only [dstOf, Act.put, List.getElem?_toArray, List.getElem?_cons_succ, List.getElem?_cons_zero, Option.bind_some, List.setIfInBounds_toArray, List.set_cons_zero, List.set_cons_succ, List.nil_append, List.cons_append]
        rotate_left 1
        · obtain rfl : u20 = (.bool true) := hK (20, u20) (by simp) (by kernel_rfl)
          obtain ⟨d0, d1, d2, d3, d4, d5⟩ := boxS_cells (HR9.out.keeps hk2 (fun h => h))
          go_wp2
          exact ⟨_, rfl, HSA.out.symm ▸ rfl, Keeps.refl _ _⟩
        refine ⟨_, rfl, fun w2 hk2 hK => ?_, fun u22 => ?_⟩
        rotate_left 1
        simp only [dstOf, Act.put, List.getElem?_toArray, List.getElem?_cons_succ, List.getElem?_cons_zero, Option.bind_some, List.setIfInBounds_toArray, List.set_cons_zero, List.set_cons_succ, List.nil_append, List.cons_append]
        rotate_left 1
        · obtain rfl : u21 = (.agg SA) := hK (21, u21) (by simp) (by kernel_rfl)
          obtain rfl : u20 = (.bool true) := hK (20, u20) (by simp) (by kernel_rfl)
          go_wp2_with fail
          refine (HCK.out _).mono ?_
          rintro e w3 ⟨rfl, hk3⟩
          go_wp2
          exact ⟨_, rfl, rfl, hk3⟩
        refine ⟨_, rfl, fun w2 hk2 hK => ?_, fun u23 => ?_⟩
        rotate_left 1
        simp only [dstOf, Act.put, List.getElem?_toArray, List.getElem?_cons_succ, List.getElem?_cons_zero, Option.bind_some, List.setIfInBounds_toArray, List.set_cons_zero, List.set_cons_succ, List.nil_append, List.cons_append]
        rotate_left 1
        · obtain rfl : u22 = (.int .i64 (mayE mb)) := hK (22, u22) (by simp) (by kernel_rfl)
          obtain rfl : u20 = (.bool true) := hK (20, u20) (by simp) (by kernel_rfl)
          cases mb with
          | true => (rw [show mayE true = 0 from rfl]; go_wp2; exact ⟨_, rfl, rfl, Keeps.refl _ _⟩)
          | false => (rw [show mayE false = 1 from rfl]; go_wp2; exact ⟨_, rfl, rfl, Keeps.refl _ _⟩)
        refine ⟨_, rfl, fun w2 hk2 hK => ?_, fun u24 => ?_⟩
        rotate_left 1
        simp only [dstOf, Act.put, List.getElem?_toArray, List.getElem?_cons_succ, List.getElem?_cons_zero, Option.bind_some, List.setIfInBounds_toArray, List.set_cons_zero, List.set_cons_succ, List.nil_append, List.cons_append]
        rotate_left 1
        · obtain rfl : u20 = (.bool true) := hK (20, u20) (by simp) (by kernel_rfl)
          obtain ⟨d0, d1, d2, d3, d4, d5⟩ := boxS_cells (HR9.out.keeps hk2 (fun h => h))
          go_wp2
          exact ⟨_, rfl, HSA.out.symm ▸ rfl, Keeps.refl _ _⟩
        refine ⟨_, rfl, fun w2 hk2 hK => ?_, fun u25 => ?_⟩
        rotate_left 1
        simp only [dstOf, Act.put, List.getElem?_toArray, List.getElem?_cons_succ, List.getElem?_cons_zero, Option.bind_some, List.setIfInBounds_toArray, List.set_cons_zero, List.set_cons_succ, List.nil_append, List.cons_append]
        rotate_left 1
        · obtain rfl : u24 = (.agg SA) := hK (24, u24) (by simp) (by kernel_rfl)
          obtain rfl : u20 = (.bool true) := hK (20, u20) (by simp) (by kernel_rfl)
          go_wp2_with fail
          refine (HMY.out _).mono ?_
          rintro e w3 ⟨rfl, hk3⟩
          go_wp2
          exact ⟨_, rfl, rfl, hk3⟩
        refine ⟨_, rfl, fun w2 hk2 hK => ?_, fun u26 => ?_⟩
        rotate_left 1
        simp only [dstOf, Act.put, List.getElem?_toArray, List.getElem?_cons_succ, List.getElem?_cons_zero, Option.bind_some, List.setIfInBounds_toArray, List.set_cons_zero, List.set_cons_succ, List.nil_append, List.cons_append]
        rotate_left 1
        · obtain rfl : u23 = (.bool mb) := hK (23, u23) (by simp) (by kernel_rfl)
          obtain rfl : u25 = (.bool mb) := hK (25, u25) (by simp) (by kernel_rfl)
          obtain rfl : u20 = (.bool true) := hK (20, u20) (by simp) (by kernel_rfl)
          cases mb <;> (go_wp2; exact ⟨_, rfl, rfl, Keeps.refl _ _⟩)
        refine ⟨_, rfl, fun w2 hk2 hK => ?_, fun u27 => ?_⟩
        rotate_left 1
        simp only [dstOf, Act.put, List.getElem?_toArray, List.getElem?_cons_succ, List.getElem?_cons_zero, Option.bind_some, List.setIfInBounds_toArray, List.set_cons_zero, List.set_cons_succ, List.nil_append, List.cons_append]
        rotate_left 1
        · obtain rfl : u20 = (.bool true) := hK (20, u20) (by simp) (by kernel_rfl)
          obtain rfl : u26 = (.bool true) := hK (26, u26) (by simp) (by kernel_rfl)
          go_wp2
          exact ⟨_, rfl, rfl, Keeps.refl _ _⟩
        refine ⟨_, rfl, fun w2 hk2 hK => ?_, fun u28 => ?_⟩
        rotate_left 1
        simp only [dstOf, Act.put, List.getElem?_toArray, List.getElem?_cons_succ, List.getElem?_cons_zero, Option.bind_some, List.setIfInBounds_toArray, List.set_cons_zero, List.set_cons_succ, List.nil_append, List.cons_append]
        rotate_left 1
        · obtain rfl : u27 = (.bool true) := hK (27, u27) (by simp) (by kernel_rfl)
          go_wp2
          exact ⟨_, rfl, rfl, Keeps.refl _ _⟩
        refine ⟨_, rfl, fun w2 hk2 hK => ?_, fun u29 => ?_⟩
        rotate_left 1
        simp only [dstOf, Act.put, List.getElem?_toArray, List.getElem?_cons_succ, List.getElem?_cons_zero, Option.bind_some, List.setIfInBounds_toArray, List.set_cons_zero, List.set_cons_succ, List.nil_append, List.cons_append]
        rotate_left 1
        · obtain rfl : u28 = (.bool true) := hK (28, u28) (by simp) (by kernel_rfl)
          go_wp2
          exact ⟨_, rfl, rfl, Keeps.refl _ _⟩
        refine ⟨_, rfl, fun w2 hk2 hK => ?_, fun u30 => ?_⟩
        rotate_left 1
        simp only [dstOf, Act.put, List.getElem?_toArray, List.getElem?_cons_succ, List.getElem?_cons_zero, Option.bind_some, List.setIfInBounds_toArray, List.set_cons_zero, List.set_cons_succ, List.nil_append, List.cons_append]
        rotate_left 1
        · obtain rfl : u29 = (.int .i64 n) := hK (29, u29) (by simp) (by kernel_rfl)
          obtain rfl : u28 = (.bool true) := hK (28, u28) (by simp) (by kernel_rfl)
          go_wp2_with fail
          refine (HL1.out _).mono ?_
          rintro e w3 ⟨rfl, rfl⟩
          go_wp2
          exact ⟨_, rfl, rfl, Keeps.refl _ _⟩
        refine ⟨_, rfl, fun w2 hk2 hK => ?_, fun u31 => ?_⟩
        rotate_left 1
        simp only [dstOf, Act.put, List.getElem?_toArray, List.getElem?_cons_succ, List.getElem?_cons_zero, Option.bind_some, List.setIfInBounds_toArray, List.set_cons_zero, List.set_cons_succ, List.nil_append, List.cons_append]
        rotate_left 1
        · obtain rfl : u28 = (.bool true) := hK (28, u28) (by simp) (by kernel_rfl)
          go_wp2
          exact ⟨_, rfl, rfl, Keeps.refl _ _⟩
        refine ⟨_, rfl, fun w2 hk2 hK => ?_, fun u32 => ?_⟩
        rotate_left 1
        simp only [dstOf, Act.put, List.getElem?_toArray, List.getElem?_cons_succ, List.getElem?_cons_zero, Option.bind_some, List.setIfInBounds_toArray, List.set_cons_zero, List.set_cons_succ, List.nil_append, List.cons_append]
        rotate_left 1
        · obtain rfl : u31 = (.int .i64 n) := hK (31, u31) (by simp) (by kernel_rfl)
          obtain rfl : u28 = (.bool true) := hK (28, u28) (by simp) (by kernel_rfl)
          go_wp2_with fail
          refine (HL2.out _).mono ?_
          rintro e w3 ⟨rfl, rfl⟩
          go_wp2
          exact ⟨_, rfl, rfl, Keeps.refl _ _⟩
        refine ⟨_, rfl, fun w2 hk2 hK => ?_, fun u33 => ?_⟩
        rotate_left 1
        simp only [dstOf, Act.put, List.getElem?_toArray, List.getElem?_cons_succ, List.getElem?_cons_zero, Option.bind_some, List.setIfInBounds_toArray, List.set_cons_zero, List.set_cons_succ, List.nil_append, List.cons_append]
        rotate_left 1
        · obtain rfl : u30 = (.int .i64 L) := hK (30, u30) (by simp) (by kernel_rfl)
          obtain rfl : u32 = (.int .i64 L) := hK (32, u32) (by simp) (by kernel_rfl)
          obtain rfl : u28 = (.bool true) := hK (28, u28) (by simp) (by kernel_rfl)
          go_wp2
          exact ⟨_, rfl, rfl, Keeps.refl _ _⟩
        refine ⟨_, rfl, fun w2 hk2 hK => ?_, fun u34 => ?_⟩
        rotate_left 1
        simp only [dstOf, Act.put, List.getElem?_toArray, List.getElem?_cons_succ, List.getElem?_cons_zero, Option.bind_some, List.setIfInBounds_toArray, List.set_cons_zero, List.set_cons_succ, List.nil_append, List.cons_append]
        rotate_left 1
        · obtain rfl : u28 = (.bool true) := hK (28, u28) (by simp) (by kernel_rfl)
          obtain rfl : u33 = (.bool true) := hK (33, u33) (by simp) (by kernel_rfl)
          go_wp2
          exact ⟨_, rfl, rfl, Keeps.refl _ _⟩
        refine ⟨_, rfl, fun w2 hk2 hK => ?_, fun u35 => ?_⟩
        rotate_left 1
        simp only [dstOf, Act.put, List.getElem?_toArray, List.getElem?_cons_succ, List.getElem?_cons_zero, Option.bind_some, List.setIfInBounds_toArray, List.set_cons_zero, List.set_cons_succ, List.nil_append, List.cons_append]
        rotate_left 1
        · obtain rfl : u34 = (.bool true) := hK (34, u34) (by simp) (by kernel_rfl)
          go_wp2
          exact ⟨_, rfl, rfl, Keeps.refl _ _⟩
        intro w3 hk3 hK
        obtain rfl : u35 = .bool true := hK (35, u35) (by simp)
        have HKF := Lib.hid (HK9.out.trans hk3 (fun _ _ h => h))
        clear hK hk3
        go_wp2
        go_ret
        exact ⟨rfl, HKF.out⟩
      · have h2I : ((lenS data.length : Nat) : Int) ≤ 65535 := by omega
        generalize lenS data.length = LS at *
        clear hg2 HSX0 HSY0 HLL h1 h2
        go_enter Tryd.func3, Tryd.ntmps3
        go_wp2_with fail
        refine (HF.out _).mono ?_
        rintro e w1 ⟨rfl, hk1⟩
        have HK1 := Lib.hid (HKA.out.trans hk1 (fun _ _ h => h))
        have HR1 := Lib.hid (HRA.out.keeps hk1 (fun h => h))
        clear hk1 HF
        go_wp2_with fail
        refine (HLX.out _).mono ?_
        rintro e w3 ⟨rfl, rfl⟩
        go_wp2
        go_ret
        exact ⟨rfl, HK1.out⟩
  · have h2 : fw = false ∨ (fw = true ∧ ((300 < data.length ∧ data.length < 65400) ∨ (data.length ≤ 300 ∧ 1000000 < n) ∨ (65400 ≤ data.length ∧ (66000 < data.length ∨ (data.length ≤ 66000 ∧ 1000000 < n))))) := by
      cases fw with
      | false => exact .inl rfl
      | true => simp only [true_and, Bool.true_eq_false, false_or] at hg ⊢; omega
    clear hg HSX0 HSY0 HLL HCK HMY
    go_enter Tryd.func3, Tryd.ntmps3
    go_wp2_with fail
    refine (HF.out _).mono ?_
    rintro e w1 ⟨rfl, hk1⟩
    have HK1 := Lib.hid (HKA.out.trans hk1 (fun _ _ h => h))
    have HR1 := Lib.hid (HRA.out.keeps hk1 (fun h => h))
    clear hk1 HF
    rcases h2 with rfl | ⟨rfl, h2⟩
    · go_wp2
      go_ret
      exact ⟨rfl, HK1.out⟩
    · rcases h2 with ⟨a1, a2⟩ | ⟨a1, a2⟩ | ⟨a1, h2⟩
      · have b1 : (300 : Int) < (data.length : Int) := by omega
        have b2 : (data.length : Int) < 65400 := by omega
        clear a1 a2
        go_wp2
        go_ret
        exact ⟨rfl, HK1.out⟩
      · have b1 : (data.length : Int) ≤ 300 := by omega
        clear a1
        go_wp2
        go_ret
        exact ⟨rfl, HK1.out⟩
      · have b1 : (65400 : Int) ≤ (data.length : Int) := by omega
        clear a1
        rcases h2 with a2 | ⟨a2, a3⟩
        · have b2 : (66000 : Int) < (data.length : Int) := by omega
          clear a2
          go_wp2
          go_ret
          exact ⟨rfl, HK1.out⟩
        · have b2 : (data.length : Int) ≤ 66000 := by omega
          clear a2
          go_wp2
          go_ret
          exact ⟨rfl, HK1.out⟩
theorem lseals_row (sa : SaV) (seq : Int) (dv : Value) (data : List UInt8) (next n : Int) (w : World) (hsz : SizedSa sa) (hq : (Lit.int .u64 seq).wf = true) (hd : BAt w (· < w.heap.size) dv data) (_ : (Lit.int .i64 next).wf = true) (_ : (Lit.int .i64 n).wf = true) (hT : Table w) :
    Calls Tryd.prog 3 #[.agg (saC sa), .int .u64 seq, dv, .int .i64 next, .int .i64 n] w fun e w' => e = .returned (.bool true) ∧ Keeps (fun _ => False) w w' := by
  obtain ⟨s, rfl, hs⟩ := u64_nat hq
  exact lseals_any sa s dv data next n w hsz hs hd hT
end Go.Proofs.YtekaoknpjpbjgaaDoor

/-! The reference of layer 14: Open. -/
namespace Go.Proofs.YtekaoknpjpbjgaaDoor
set_option linter.unusedVariables false
set_option linter.unusedSimpArgs false
open Go.RowKit

theorem openS_shape (sa : SaV) (seq : Nat) (b : List UInt8) : (openS sa seq b = (shapeE sa seq b, [], 0) ∧ shapeE sa seq b ≠ 0) ∨ (shapeE sa seq b = 0 ∧ okN sa seq = true ∧ 36 ≤ b.length ∧ b.length % 4 = 0) := by
  by_cases h : shapeE sa seq b = 0
  · rcases shapeE_cases sa seq b with h1 | h1 | h1 | h1
    · rw [h] at h1; cases h1
    · rw [h] at h1; cases h1
    · rw [h] at h1; cases h1
    · exact .inr h1
  · exact .inl ⟨openS_bad sa seq b h, h⟩
set_option maxRecDepth 100000 in
set_option maxHeartbeats 1000000 in
theorem ropen_arg (sa : SaV) (seq : Nat) (bv : Value) (w : World) (hsz : SizedSa sa) (h : okN sa seq = false) :
    Calls Tryd.prog 18 #[.agg (saC sa), .int .u64 seq, bv] w fun e w' => e = .returned (.tuple #[.slice none 0 0, .int .i64 0, .int .i64 1]) ∧ Keeps (fun _ => False) w w' := by
  have hka := (Keeps.refl (fun _ => False) w).alloc (.cells (saC sa) 23)
  have hra := RowAt.new w (saC sa) 23
  have HMY := Lib.hid (fun w => rmay14_any sa w hsz)
  have HNM := Lib.hid (fun w => rnumber_any sa seq w)
  have hokn := okN_num sa seq
  rw [hokn] at h
  generalize mayS sa = mb at *
  generalize numS sa seq = nb at *
  obtain ⟨spi, key, salt, mac, esn, window⟩ := sa
  unfold saC at hka hra HMY HNM ⊢
  simp only at hka hra HMY HNM ⊢
  have HKA := Lib.hid hka
  have HRA := Lib.hid hra
  clear hka hra hsz hokn
  cases mb with
  | false =>
    clear h
    go_enter Tryd.func18, Tryd.ntmps18
    go_wp2_with fail
    refine (HMY.out _).mono ?_
    rintro e w1 ⟨rfl, hk1⟩
    have HK1 := Lib.hid (HKA.out.trans hk1 (fun _ _ h => h))
    have HR1 := Lib.hid (HRA.out.keeps hk1 (fun h => h))
    clear hk1
    go_wp2
    refine bodyPost_ret (results_tmp3 rfl _ _ _) rfl ?_
    exact ⟨rfl, HK1.out⟩
  | true =>
    cases nb with
    | false =>
      clear h
      go_enter Tryd.func18, Tryd.ntmps18
      go_wp2_with fail
      refine (HMY.out _).mono ?_
      rintro e w1 ⟨rfl, hk1⟩
      have HK1 := Lib.hid (HKA.out.trans hk1 (fun _ _ h => h))
      have HR1 := Lib.hid (HRA.out.keeps hk1 (fun h => h))
      clear hk1
      have d0 := (HR1.out).cell 0
      have d1 := (HR1.out).cell 1
      have d2 := (HR1.out).cell 2
      have d3 := (HR1.out).cell 3
      have d4 := (HR1.out).cell 4
      have d5 := (HR1.out).cell 5
      go_wp2_with fail
      refine (HNM.out _).mono ?_
      rintro e w2 ⟨rfl, hk2⟩
      have HK2 := Lib.hid (HK1.out.trans hk2 (fun _ _ h => h))
      have HR2 := Lib.hid (HR1.out.keeps hk2 (fun h => h))
      clear hk2 d0 d1 d2 d3 d4 d5
      go_wp2
      refine bodyPost_ret (results_tmp3 rfl _ _ _) rfl ?_
      exact ⟨rfl, HK2.out⟩
    | true => cases h
set_option maxRecDepth 100000 in
set_option maxHeartbeats 1000000 in
theorem ropen_more (sa : SaV) (seq : Nat) (bv : Value) (b : List UInt8) (w : World) (hsz : SizedSa sa) (hb : BRd w bv b) (h : okN sa seq = true) (hl : b.length < 36) :
    Calls Tryd.prog 18 #[.agg (saC sa), .int .u64 seq, bv] w fun e w' => e = .returned (.tuple #[.slice none 0 0, .int .i64 0, .int .i64 8]) ∧ Keeps (fun _ => False) w w' := by
  have hka := (Keeps.refl (fun _ => False) w).alloc (.cells (saC sa) 23)
  have hra := RowAt.new w (saC sa) 23
  have HMY := Lib.hid (fun w => rmay14_any sa w hsz)
  have HNM := Lib.hid (fun w => rnumber_any sa seq w)
  have hokn := okN_num sa seq
  obtain ⟨hm1, hm2⟩ : mayS sa = true ∧ numS sa seq = true := by rw [h] at hokn; simpa using hokn.symm
  obtain ⟨-, -, hkl, hsl, hml, -, -⟩ := (mayS_iff sa).1 hm1
  rw [hm1] at HMY
  rw [hm2] at HNM
  obtain ⟨ba, bc, rfl, -, -⟩ := hb.slice
  have hlI : (b.length : Int) < 36 := by omega
  obtain ⟨spi, key, salt, mac, esn, window⟩ := sa
  unfold saC at hka hra HMY HNM ⊢
  simp only at hka hra HMY HNM ⊢
  have HKA := Lib.hid hka
  have HRA := Lib.hid hra
  clear hka hra hsz hokn hb h hm1 hm2 hkl hsl hml hl
  go_enter Tryd.func18, Tryd.ntmps18
  go_wp2_with fail
  refine (HMY.out _).mono ?_
  rintro e w1 ⟨rfl, hk1⟩
  have HK1 := Lib.hid (HKA.out.trans hk1 (fun _ _ h => h))
  have HR1 := Lib.hid (HRA.out.keeps hk1 (fun h => h))
  clear hk1
  have d0 := (HR1.out).cell 0
  have d1 := (HR1.out).cell 1
  have d2 := (HR1.out).cell 2
  have d3 := (HR1.out).cell 3
  have d4 := (HR1.out).cell 4
  have d5 := (HR1.out).cell 5
  go_wp2_with fail
  refine (HNM.out _).mono ?_
  rintro e w2 ⟨rfl, hk2⟩
  have HK2 := Lib.hid (HK1.out.trans hk2 (fun _ _ h => h))
  have HR2 := Lib.hid (HR1.out.keeps hk2 (fun h => h))
  clear hk2 d0 d1 d2 d3 d4 d5
  go_wp2
  refine bodyPost_ret (results_tmp3 rfl _ _ _) rfl ?_
  exact ⟨rfl, HK2.out⟩
set_option maxRecDepth 100000 in
set_option maxHeartbeats 2000000 in
theorem ropen_form (sa : SaV) (seq : Nat) (bv : Value) (b : List UInt8) (w : World) (hsz : SizedSa sa) (hb : BRd w bv b) (h : okN sa seq = true) (hl : 36 ≤ b.length) (hbl : b.length ≤ 9000) (hs : seq < 18446744073709551616)
    (hf : b.length % 4 ≠ 0 ∨ (val4 b : Int) ≠ sa.spi ∨ val4 (b.drop 4) ≠ seq % 4294967296) :
    Calls Tryd.prog 18 #[.agg (saC sa), .int .u64 seq, bv] w fun e w' => e = .returned (.tuple #[.slice none 0 0, .int .i64 0, .int .i64 4]) ∧ Keeps (fun _ => False) w w' := by
  have hka := (Keeps.refl (fun _ => False) w).alloc (.cells (saC sa) 23)
  have hra := RowAt.new w (saC sa) 23
  have HMY := Lib.hid (fun w => rmay14_any sa w hsz)
  have HNM := Lib.hid (fun w => rnumber_any sa seq w)
  have hokn := okN_num sa seq
  obtain ⟨hm1, hm2⟩ : mayS sa = true ∧ numS sa seq = true := by rw [h] at hokn; simpa using hokn.symm
  obtain ⟨-, -, hkl, hsl, hml, -, -⟩ := (mayS_iff sa).1 hm1
  rw [hm1] at HMY
  rw [hm2] at HNM
  obtain ⟨N, hN⟩ : ∃ N, b.length = N + 16 := ⟨b.length - 16, by omega⟩
  have hN20 : 20 ≤ N := by omega
  obtain ⟨g, off, c, rfl, hc, hcm, -, -⟩ := BAt.get hb (by omega)
  have hc4 : ¬ c = 4 := by omega
  have hd4 : BRd w (.slice (cutA (some ⟨g, off, none⟩) c 4) (b.length - 4) (c - 4)) (b.drop 4) := BAt.cutG hb 4 (by omega)
  rw [show cutA (some ⟨g, off, none⟩) c 4 = some ⟨g, off + 4, none⟩ by unfold cutA; rw [if_neg hc4, Option.map_some, addr_add], hN, show N + 16 - 4 = N + 12 by omega] at hd4
  have hl1 : 4 ≤ b.length := by omega
  have hl2 : 4 ≤ (b.drop 4).length := by rw [List.length_drop]; omega
  have x1 := val4_lt b
  have x2 := val4_lt (b.drop 4)
  have hf' : ¬ (N : Int) % 4 = 0 ∨ ((N : Int) % 4 = 0 ∧ ((val4 b : Int) ≠ sa.spi ∨ ((val4 b : Int) = sa.spi ∧ ((val4 (b.drop 4) : Nat) : Int) ≠ (seq : Int) % 4294967296))) := by omega
  have H1' := fun (W : World) (h : Keeps (fun _ => False) w W) (n : Nat) => rfour_any _ _ (W.drewN n) (BRd.keeps hb (h.trans ((Keeps.refl _ _).drewN n) (fun _ _ h => h))) hl1
  have H2' := fun (W : World) (h : Keeps (fun _ => False) w W) (n : Nat) => rfour_any _ _ (W.drewN n) (BRd.keeps hd4 (h.trans ((Keeps.refl _ _).drewN n) (fun _ _ h => h))) hl2
  generalize val4 (b.drop 4) = V2 at *
  generalize val4 b = V1 at *
  obtain ⟨z, hz⟩ : ∃ z : Int, (seq : Int) = z := ⟨_, rfl⟩
  rw [hz] at hf' HNM ⊢
  have hz0 : 0 ≤ z := by omega
  have y1 : (V1 : Int) ≤ 4294967295 := by omega
  have y2 : (V2 : Int) ≤ 4294967295 := by omega
  have y10 : 0 ≤ (V1 : Int) := by omega
  have y20 : 0 ≤ (V2 : Int) := by omega
  generalize (V1 : Int) = v1 at *
  generalize (V2 : Int) = v2 at *
  rw [hN] at hc ⊢
  rw [hN] at H1'
  have HH1 := Lib.hid H1'
  have HH2 := Lib.hid H2'
  obtain ⟨r, hr⟩ : ∃ r : Int, (N : Int) % 4 = r := ⟨_, rfl⟩
  obtain ⟨zr, hzr⟩ : ∃ r : Int, z % 4294967296 = r := ⟨_, rfl⟩
  have hnt : (N : Int).tmod 4 = r := by rw [Int.tmod_eq_emod_of_nonneg (by omega)]; exact hr
  have hzt : z.tmod 4294967296 = zr := by rw [Int.tmod_eq_emod_of_nonneg hz0]; exact hzr
  have hNb : (N : Int) ≤ 9000 := by omega
  rw [hr, hzr] at hf'
  have hlI : ¬ (N : Int) + 16 < 36 := by omega
  have hc4I : (4 : Int) ≤ (N : Int) + 16 := by omega
  have hu : IntKind.u64.wrap v2 = v2 := u64_fit _ y20 (by omega)
  obtain ⟨spi, key, salt, mac, esn, window⟩ := sa
  unfold saC at hka hra HMY HNM ⊢
  simp only at hka hra HMY HNM hf' ⊢
  have HKA := Lib.hid hka
  have HRA := Lib.hid hra
  clear hka hra hsz hokn hb h hm1 hm2 hkl hsl hml hl hf hd4 hl1 hl2 H1' H2' hz hs x1 x2 hN hr hzr hbl
  go_enter Tryd.func18, Tryd.ntmps18
  go_wp2_with fail
  refine (HMY.out _).mono ?_
  rintro e w1 ⟨rfl, hk1⟩
  have HK1 := Lib.hid (HKA.out.trans hk1 (fun _ _ h => h))
  have HR1 := Lib.hid (HRA.out.keeps hk1 (fun h => h))
  clear hk1
  have d0 := (HR1.out).cell 0
  have d1 := (HR1.out).cell 1
  have d2 := (HR1.out).cell 2
  have d3 := (HR1.out).cell 3
  have d4 := (HR1.out).cell 4
  have d5 := (HR1.out).cell 5
  go_wp2_with fail
  refine (HNM.out _).mono ?_
  rintro e w2 ⟨rfl, hk2⟩
  have HK2 := Lib.hid (HK1.out.trans hk2 (fun _ _ h => h))
  have HR2 := Lib.hid (HR1.out.keeps hk2 (fun h => h))
  clear hk2 d0 d1 d2 d3 d4 d5
  have H1 := Lib.hid (HH1.out w2 HK2.out)
  have H2 := Lib.hid (HH2.out w2 HK2.out)
  have c0 := HR2.out.cell 0
  rcases hf' with hf | ⟨hf, hf'⟩
  · have n1 : (r != 0) = true := by simpa using hf
    go_wp2
    go_quiet (first | with_reducible exact Calls.quiet_of (H1.out _) | with_reducible exact quiet_of2 (H1.out _) | with_reducible exact Calls.quiet_of (H2.out _) | with_reducible exact quiet_of2 (H2.out _))
    go_wp2
    refine bodyPost_ret (results_tmp3 rfl _ _ _) rfl ?_
    exact ⟨rfl, HK2.out.drewN _⟩
  · subst hf
    rcases hf' with hf2 | ⟨hf2, hf3⟩
    · have n1 : (v1 != spi) = true := by simpa using hf2
      go_wp2
      go_quiet (first | with_reducible exact Calls.quiet_of (H1.out _) | with_reducible exact quiet_of2 (H1.out _) | with_reducible exact Calls.quiet_of (H2.out _) | with_reducible exact quiet_of2 (H2.out _))
      go_wp2
      refine bodyPost_ret (results_tmp3 rfl _ _ _) rfl ?_
      exact ⟨rfl, HK2.out.drewN _⟩
    · subst hf2
      have n1 : (v2 != zr) = true := by simpa using hf3
      go_wp2
      go_quiet (first | with_reducible exact Calls.quiet_of (H1.out _) | with_reducible exact quiet_of2 (H1.out _) | with_reducible exact Calls.quiet_of (H2.out _) | with_reducible exact quiet_of2 (H2.out _))
      go_wp2
      refine bodyPost_ret (results_tmp3 rfl _ _ _) rfl ?_
      exact ⟨rfl, HK2.out.drewN _⟩
end Go.Proofs.YtekaoknpjpbjgaaDoor

/-! The reference of layer 14: Open, what is of the form. -/
namespace Go.Proofs.YtekaoknpjpbjgaaDoor
set_option linter.unusedVariables false
set_option linter.unusedSimpArgs false
open Go.RowKit

theorem shape_conds {sa : SaV} {seq : Nat} {b : List UInt8} (h : shapeE sa seq b = 0) : okN sa seq = true ∧ 36 ≤ b.length ∧ b.length % 4 = 0 ∧ (val4 b : Int) = sa.spi ∧ val4 (b.drop 4) = seq % 4294967296 := by
  unfold shapeE at h
  by_cases h1 : okN sa seq = false
  · rw [if_pos h1] at h; exact absurd h (by decide)
  · rw [if_neg h1] at h
    by_cases h2 : b.length < 36
    · rw [if_pos h2] at h; exact absurd h (by decide)
    · rw [if_neg h2] at h
      by_cases h3 : b.length % 4 ≠ 0 ∨ (val4 b : Int) ≠ sa.spi ∨ val4 (b.drop 4) ≠ seq % 4294967296
      · rw [if_pos h3] at h; exact absurd h (by decide)
      · exact ⟨by simpa using h1, by omega, by omega, by omega, by omega⟩
set_option maxRecDepth 100000 in
set_option maxHeartbeats 2000000 in
theorem ropen_good (sa : SaV) (seq : Nat) (bv : Value) (b : List UInt8) (w : World) (hsz : SizedSa sa) (hb : BRd w bv b) (hs : seq < 18446744073709551616) (h : shapeE sa seq b = 0) (hbl : b.length ≤ 9000) :
    Calls Tryd.prog 18 #[.agg (saC sa), .int .u64 seq, bv] w (OpenE sa seq b w) := by
  have hka := (Keeps.refl (fun _ => False) w).alloc (.cells (saC sa) 23)
  have hra := RowAt.new w (saC sa) 23
  have HMY := Lib.hid (fun w => rmay14_any sa w hsz)
  have HNM := Lib.hid (fun w => rnumber_any sa seq w)
  have hokn := okN_num sa seq
  obtain ⟨hok, h36, hm4, hv1, hv2⟩ := shape_conds h
  have hO := openS_on sa seq b h
  rw [hok] at hokn
  obtain ⟨hm1, hm2⟩ : mayS sa = true ∧ numS sa seq = true := by simpa using hokn.symm
  obtain ⟨-, -, hkl, hsl, hml, -, -⟩ := (mayS_iff sa).1 hm1
  rw [hm1] at HMY
  rw [hm2] at HNM
  obtain ⟨N, hN⟩ : ∃ N, b.length = N + 16 := ⟨b.length - 16, by omega⟩
  have hN20 : 20 ≤ N := by omega
  obtain ⟨g, off, c, rfl, hc, hcm, -, -⟩ := BAt.get hb (by omega)
  have hc4 : ¬ c = 4 := by omega
  have hc16 : ¬ c = 16 := by omega
  have hc8 : ¬ c = 8 := by omega
  have hcN : ¬ c = N := by omega
  have hd4 : BRd w (.slice (cutA (some ⟨g, off, none⟩) c 4) (b.length - 4) (c - 4)) (b.drop 4) := BAt.cutG hb 4 (by omega)
  rw [show cutA (some ⟨g, off, none⟩) c 4 = some ⟨g, off + 4, none⟩ by unfold cutA; rw [if_neg hc4, Option.map_some, addr_add], hN, show N + 16 - 4 = N + 12 by omega] at hd4
  rw [hN, show N + 16 - 16 = N by omega] at hO
  have hd1 : BRd w (.slice (cutA (some ⟨g, off, none⟩) c N) (b.length - N) (c - N)) (b.drop N) := BAt.cutG hb N (by omega)
  rw [show cutA (some ⟨g, off, none⟩) c N = some ⟨g, off + N, none⟩ by unfold cutA; rw [if_neg hcN, Option.map_some, addr_add], hN, show N + 16 - N = 16 by omega] at hd1
  have hd2 : BRd w (.slice (some ⟨g, off, none⟩) N c) (b.take N) := BAt.take8 hb N (by omega)
  have hd3 : BRd w (.slice (cutA (some ⟨g, off, none⟩) c 16) (b.length - 16) (c - 16)) (b.drop 16) := BAt.cutG hb 16 (by omega)
  rw [show cutA (some ⟨g, off, none⟩) c 16 = some ⟨g, off + 16, none⟩ by unfold cutA; rw [if_neg hc16, Option.map_some, addr_add]] at hd3
  have hd9 : BRd w (.slice (some ⟨g, off + 16, none⟩) (N - 16) (c - 16)) ((b.drop 16).take (N - 16)) := BAt.take8 hd3 (N - 16) (by rw [List.length_drop]; omega)
  have hd5 : BRd w (.slice (cutA (some ⟨g, off, none⟩) c 8) (b.length - 8) (c - 8)) (b.drop 8) := BAt.cutG hb 8 (by omega)
  rw [show cutA (some ⟨g, off, none⟩) c 8 = some ⟨g, off + 8, none⟩ by unfold cutA; rw [if_neg hc8, Option.map_some, addr_add]] at hd5
  have hd6 : BRd w (.slice (some ⟨g, off + 8, none⟩) 8 (c - 8)) ((b.drop 8).take 8) := BAt.take8 hd5 8 (by rw [List.length_drop]; omega)
  have hl1 : 4 ≤ b.length := by omega
  have hl2 : 4 ≤ (b.drop 4).length := by rw [List.length_drop]; omega
  have hl3 : ((b.drop 8).take 8).length = 8 := by rw [List.length_take, List.length_drop]; omega
  have hl5 : (b.take N).length ≤ 9000 := by rw [List.length_take]; omega
  have hl6 : ((b.drop 16).take (N - 16)).length ≤ 65536 := by rw [List.length_take]; omega
  have hmid : (b.take N).drop 16 = (b.drop 16).take (N - 16) := by rw [List.drop_take]
  rw [hmid] at hO
  have x1 := val4_lt b
  have x2 := val4_lt (b.drop 4)
  have H1' := fun (W : World) (h : Keeps (fun _ => False) w W) (n : Nat) => rfour_any _ _ (W.drewN n) (BRd.keeps hb (h.trans ((Keeps.refl _ _).drewN n) (fun _ _ h => h))) hl1
  have H2' := fun (W : World) (h : Keeps (fun _ => False) w W) (n : Nat) => rfour_any _ _ (W.drewN n) (BRd.keeps hd4 (h.trans ((Keeps.refl _ _).drewN n) (fun _ _ h => h))) hl2
  have HTG := Lib.hid (fun (W : World) (v : Value) (h1 : BRd W v (b.take N)) => rtag14_any sa seq v (b.take N) W h1 hml hl5 hs)
  have hvI : ((val4 (b.drop 4) : Nat) : Int) = (seq : Int) % 4294967296 := by omega
  generalize val4 (b.drop 4) = V2 at *
  generalize val4 b = V1 at *
  obtain ⟨z, hz⟩ : ∃ z : Int, (seq : Int) = z := ⟨_, rfl⟩
  rw [hz] at hvI HNM HTG ⊢
  have hz0 : 0 ≤ z := by omega
  have y2 : (V2 : Int) ≤ 4294967295 := by omega
  have y20 : 0 ≤ (V2 : Int) := by omega
  have hu : IntKind.u64.wrap (V2 : Int) = (V2 : Int) := u64_fit _ y20 (by omega)
  have hzt : z.tmod 4294967296 = (V2 : Int) := by clear hu; rw [Int.tmod_eq_emod_of_nonneg hz0]; exact hvI.symm
  rw [hv1] at H1'
  generalize (V2 : Int) = v2 at *
  rw [hN] at hc ⊢
  rw [hN] at H1'
  have HH1 := Lib.hid H1'
  have HH2 := Lib.hid H2'
  have hnt : (N : Int).tmod 4 = 0 := by clear hu hzt; rw [Int.tmod_eq_emod_of_nonneg (by omega)]; omega
  have hlI : ¬ (N : Int) + 16 < 36 := by clear hu hzt; omega
  have hc4I : (4 : Int) ≤ (N : Int) + 16 := by clear hu hzt; omega
  have hNb : (N : Int) ≤ 9000 := by clear hu hzt; omega
  have hNle : (N : Int) ≤ (N : Int) + 16 := by clear hu hzt; omega
  have hNc : (N : Int) ≤ (c : Int) := by clear hu hzt; omega
  have h16N : (16 : Int) ≤ (N : Int) := by clear hu hzt; omega
  have h16c : (16 : Int) ≤ (c : Int) := by clear hu hzt; omega
  unfold OpenE
  generalize openS sa seq b = O at *
  generalize (b.drop 8).take 8 = I at *
  generalize (b.drop 16).take (N - 16) = X at *
  generalize b.take N = F at *
  generalize b.drop N = D at *
  have HTN := Lib.hid (fun (w : World) (kv sv iv bv : Value) (h1 : BRd w kv sa.key) (h2 : BRd w sv sa.salt) (h3 : BRd w iv I) (h4 : BRd w bv X) => rturn_any kv sv iv bv sa.key sa.salt I X w h1 h2 h3 h4 hkl hsl hl3 hl6)
  have hPl : (turnOf sa.key sa.salt I X).length ≤ 65536 := by rw [turnOf_len]; exact hl6
  have HKS := Lib.hid (show sa.key.length ≤ 1000000 ∧ sa.salt.length ≤ 1000000 by omega)
  generalize turnOf sa.key sa.salt I X = P at *
  generalize tagS sa seq F = TG at *
  obtain ⟨spi, key, salt, mac, esn, window⟩ := sa
  unfold saC at hka hra HMY HNM HTG ⊢
  simp only at hka hra HMY HNM HTG HTN HKS hO HH1 ⊢
  have HKA := Lib.hid hka
  have HRA := Lib.hid hra
  have HO := Lib.hid hO
  have HD := Lib.hid (And.intro hd1 (And.intro hd2 (And.intro hd9 hd6)))
  clear hka hra hsz hokn hb hok h hm1 hm2 hkl hsl hml hl1 hl2 hl3 hl5 hl6 hd1 hd2 hd3 hd4 hd5 hd6 hd9 H1' H2' hz hs x1 x2 hN hbl h36 hm4 hv1 hv2 hmid hO hvI
  go_enter Tryd.func18, Tryd.ntmps18
  go_wp2_with fail
  refine (HMY.out _).mono ?_
  rintro e w1 ⟨rfl, hk1⟩
  have HK1 := Lib.hid (HKA.out.trans hk1 (fun _ _ h => h))
  have HR1 := Lib.hid (HRA.out.keeps hk1 (fun h => h))
  clear hk1
  have d0 := (HR1.out).cell 0
  have d1 := (HR1.out).cell 1
  have d2 := (HR1.out).cell 2
  have d3 := (HR1.out).cell 3
  have d4 := (HR1.out).cell 4
  have d5 := (HR1.out).cell 5
  go_wp2_with fail
  refine (HNM.out _).mono ?_
  rintro e w2 ⟨rfl, hk2⟩
  have HK2 := Lib.hid (HK1.out.trans hk2 (fun _ _ h => h))
  have HR2 := Lib.hid (HR1.out.keeps hk2 (fun h => h))
  clear hk2 d0 d1 d2 d3 d4 d5
  have H1 := Lib.hid (HH1.out w2 HK2.out)
  have H2 := Lib.hid (HH2.out w2 HK2.out)
  have c0 := HR2.out.cell 0
  go_wp2
  go_quiet (first | with_reducible exact Calls.quiet_of (H1.out _) | with_reducible exact quiet_of2 (H1.out _) | with_reducible exact Calls.quiet_of (H2.out _) | with_reducible exact quiet_of2 (H2.out _))
  go_wp2
  have HK3 := Lib.hid (HK2.out.drewN nq)
  have HR3 := Lib.hid (HR2.out.drewN nq)
  generalize w2.drewN nq = w3 at *
  clear H1 H2 c0 HR2 HK2 HH1 HH2
  by_cases htg : D = TG
  · have hO := HO.out
    rw [if_neg (fun h => h htg)] at hO
    have HO2 := Lib.hid hO
    subst htg
    clear hO HO
    refine region_T [] (fun _ => True) (by kernel_rfl) ?_
    have hC : (fun _ : World => True) w3.drew := trivial
    have hkD : Keeps (fun _ => False) w3 w3.drew := (Keeps.refl _ _).drew
    have hkE := HK3.out.trans hkD (fun _ _ h => h)
    refine anyT_take0 (i := 0) (v := ?_) rfl (by kernel_rfl) (by kernel_rfl) (by kernel_rfl) (by kernel_rfl) (by kernel_rfl) (fun _ _ _ h => h) hC (.inl ⟨by rfl, fun _ _ => ?_⟩) ?_
    rotate_left 1
    · go_simp
      try with_reducible rfl
    simp only [Act.put, List.getElem_toArray, List.getElem_cons_succ, List.getElem_cons_zero, List.setIfInBounds_toArray, List.set_cons_zero, List.set_cons_succ]
    refine anyT_take0 (i := 1) (v := ?_) rfl (by kernel_rfl) (by kernel_rfl) (by kernel_rfl) (by kernel_rfl) (by kernel_rfl) (fun _ _ _ h => h) hC (.inl ⟨by rfl, fun _ _ => ?_⟩) ?_
    rotate_left 1
    · go_simp
      try with_reducible rfl
    simp only [Act.put, List.getElem_toArray, List.getElem_cons_succ, List.getElem_cons_zero, List.setIfInBounds_toArray, List.set_cons_zero, List.set_cons_succ]
    refine anyT_take0 (i := 2) (v := ?_) rfl (by kernel_rfl) (by kernel_rfl) (by kernel_rfl) (by kernel_rfl) (by kernel_rfl) (fun _ _ _ h => h) hC (.inl ⟨by rfl, fun _ _ => ?_⟩) ?_
    rotate_left 1
    · go_simp
      try with_reducible rfl
    simp only [Act.put, List.getElem_toArray, List.getElem_cons_succ, List.getElem_cons_zero, List.setIfInBounds_toArray, List.set_cons_zero, List.set_cons_succ]
    refine anyT_take0 (i := 5) (v := ?_) rfl (by kernel_rfl) (by kernel_rfl) (by kernel_rfl) (by kernel_rfl) (by kernel_rfl) (fun _ _ _ h => h) hC (.inl ⟨by rfl, fun _ _ => ?_⟩) ?_
    rotate_left 1
    · go_simp
      try with_reducible rfl
    simp only [Act.put, List.getElem_toArray, List.getElem_cons_succ, List.getElem_cons_zero, List.setIfInBounds_toArray, List.set_cons_zero, List.set_cons_succ]
    refine anyT_take0 (i := 6) (v := ?_) rfl (by kernel_rfl) (by kernel_rfl) (by kernel_rfl) (by kernel_rfl) (by kernel_rfl) (fun _ _ _ h => h) hC (.inl ⟨by rfl, fun _ _ => ?_⟩) ?_
    rotate_left 1
    · go_simp
      try with_reducible rfl
    simp only [Act.put, List.getElem_toArray, List.getElem_cons_succ, List.getElem_cons_zero, List.setIfInBounds_toArray, List.set_cons_zero, List.set_cons_succ]
    refine anyT_take0 (i := 7) (v := ?_) rfl (by kernel_rfl) (by kernel_rfl) (by kernel_rfl) (by kernel_rfl) (by kernel_rfl) (fun _ _ _ h => h) hC (.inl ⟨by rfl, fun _ _ => ?_⟩) ?_
    rotate_left 1
    · go_simp
      try with_reducible rfl
    simp only [Act.put, List.getElem_toArray, List.getElem_cons_succ, List.getElem_cons_zero, List.setIfInBounds_toArray, List.set_cons_zero, List.set_cons_succ]
    refine anyT_take0 (i := 8) (v := ?_) rfl (by kernel_rfl) (by kernel_rfl) (by kernel_rfl) (by kernel_rfl) (by kernel_rfl) (fun _ _ _ h => h) hC (.inl ⟨by rfl, fun _ _ => ?_⟩) ?_
    rotate_left 1
    · go_simp
      try with_reducible rfl
    simp only [Act.put, List.getElem_toArray, List.getElem_cons_succ, List.getElem_cons_zero, List.setIfInBounds_toArray, List.set_cons_zero, List.set_cons_succ]
    refine anyT_par [(3, rEq (.string ⟨D.toArray⟩)), (4, rEq (.agg #[.int .i64 spi, .string ⟨key.toArray⟩, .string ⟨salt.toArray⟩, .string ⟨mac.toArray⟩, .bool esn, .int .i64 window])), (9, rEq (.string ⟨D.toArray⟩)), (10, rEq (.bool false))] _ [3, 4, 9, 10] (fun _ => trivial) (by kernel_rfl) rfl (by kernel_rfl) rfl ?_
    refine ⟨_, rfl, fun w2 hk2 hK => ?_, fun u3 => ?_⟩
    rotate_left 1
    simp only [dstOf, Act.put, List.getElem?_toArray, List.getElem?_cons_succ, List.getElem?_cons_zero, Option.bind_some, List.setIfInBounds_toArray, List.set_cons_zero, List.set_cons_succ, List.nil_append, List.cons_append]
    rotate_left 1
    · have tx := (BRd.keeps HD.out.1 (hkE.trans hk2 (fun _ _ h => h))).text
      go_wp2_with fail
      exact ⟨_, rfl, rfl, Keeps.refl _ _⟩
    refine ⟨_, rfl, fun w2 hk2 hK => ?_, fun u4 => ?_⟩
    rotate_left 1
    simp only [dstOf, Act.put, List.getElem?_toArray, List.getElem?_cons_succ, List.getElem?_cons_zero, Option.bind_some, List.setIfInBounds_toArray, List.set_cons_zero, List.set_cons_succ, List.nil_append, List.cons_append]
    rotate_left 1
    · have d0 := ((HR3.out.keeps (hkD.trans hk2 (fun _ _ h => h)) (fun h => h))).cell 0
      have d1 := ((HR3.out.keeps (hkD.trans hk2 (fun _ _ h => h)) (fun h => h))).cell 1
      have d2 := ((HR3.out.keeps (hkD.trans hk2 (fun _ _ h => h)) (fun h => h))).cell 2
      have d3 := ((HR3.out.keeps (hkD.trans hk2 (fun _ _ h => h)) (fun h => h))).cell 3
      have d4 := ((HR3.out.keeps (hkD.trans hk2 (fun _ _ h => h)) (fun h => h))).cell 4
      have d5 := ((HR3.out.keeps (hkD.trans hk2 (fun _ _ h => h)) (fun h => h))).cell 5
      go_wp2
      exact ⟨_, rfl, rfl, Keeps.refl _ _⟩
    refine ⟨_, rfl, fun w2 hk2 hK => ?_, fun u9 => ?_⟩
    rotate_left 1
    simp only [dstOf, Act.put, List.getElem?_toArray, List.getElem?_cons_succ, List.getElem?_cons_zero, Option.bind_some, List.setIfInBounds_toArray, List.set_cons_zero, List.set_cons_succ, List.nil_append, List.cons_append]
    rotate_left 1
    · obtain rfl : u4 = .agg #[.int .i64 spi, .string ⟨key.toArray⟩, .string ⟨salt.toArray⟩, .string ⟨mac.toArray⟩, .bool esn, .int .i64 window] := hK (4, u4) (by simp) (by kernel_rfl)
      go_wp2_with fail
      refine (HTG.out _ _ (BRd.keeps HD.out.2.1 (hkE.trans hk2 (fun _ _ h => h)))).mono ?_
      rintro e w5 ⟨rfl, hk5⟩
      go_wp2
      exact ⟨_, rfl, rfl, hk5⟩
    refine ⟨_, rfl, fun w2 hk2 hK => ?_, fun u10 => ?_⟩
    rotate_left 1
    simp only [dstOf, Act.put, List.getElem?_toArray, List.getElem?_cons_succ, List.getElem?_cons_zero, Option.bind_some, List.setIfInBounds_toArray, List.set_cons_zero, List.set_cons_succ, List.nil_append, List.cons_append]
    rotate_left 1
    · obtain rfl : u3 = .string ⟨D.toArray⟩ := hK (3, u3) (by simp) (by kernel_rfl)
      obtain rfl : u9 = .string ⟨D.toArray⟩ := hK (9, u9) (by simp) (by kernel_rfl)
      go_wp2
      exact ⟨_, rfl, rfl, Keeps.refl _ _⟩
    intro w4 hk4 hK
    obtain rfl : u10 = .bool false := hK (10, u10) (by simp)
    have HK4 := Lib.hid (hkE.trans hk4 (fun _ _ h => h))
    have HR4 := Lib.hid (HR3.out.keeps (hkD.trans hk4 (fun _ _ h => h)) (fun h => h))
    clear hK hk4 hkD hkE hC
    have k1 : w4.cell? ⟨w.heap.size, 1, none⟩ = some (.string ⟨key.toArray⟩) := HR4.out.cell 1
    have k2 : w4.cell? ⟨w.heap.size, 2, none⟩ = some (.string ⟨salt.toArray⟩) := HR4.out.cell 2
    go_wp2
    refine region_T [] (fun _ => True) (by kernel_rfl) ?_
    have hC : (fun _ : World => True) w4.drew := trivial
    have hkD : Keeps (fun _ => False) w4 w4.drew := (Keeps.refl _ _).drew
    have hkE := HK4.out.trans hkD (fun _ _ h => h)
    refine anyT_take0 (i := 0) (v := ?_) rfl (by kernel_rfl) (by kernel_rfl) (by kernel_rfl) (by kernel_rfl) (by kernel_rfl) (fun _ _ _ h => h) hC (.inl ⟨by rfl, fun _ _ => ?_⟩) ?_
    rotate_left 1
    · go_simp
      try with_reducible rfl
    simp only [Act.put, List.getElem_toArray, List.getElem_cons_succ, List.getElem_cons_zero, List.setIfInBounds_toArray, List.set_cons_zero, List.set_cons_succ]
    refine anyT_take0 (i := 3) (v := ?_) rfl (by kernel_rfl) (by kernel_rfl) (by kernel_rfl) (by kernel_rfl) (by kernel_rfl) (fun _ _ _ h => h) hC (.inl ⟨by rfl, fun _ _ => ?_⟩) ?_
    rotate_left 1
    · go_simp
      try with_reducible rfl
    simp only [Act.put, List.getElem_toArray, List.getElem_cons_succ, List.getElem_cons_zero, List.setIfInBounds_toArray, List.set_cons_zero, List.set_cons_succ]
    refine anyT_take0 (i := 6) (v := ?_) rfl (by kernel_rfl) (by kernel_rfl) (by kernel_rfl) (by kernel_rfl) (by kernel_rfl) (fun _ _ _ h => h) hC (.inl ⟨by rfl, fun _ _ => ?_⟩) ?_
    rotate_left 1
    · go_simp
      try with_reducible rfl
    simp only [Act.put, List.getElem_toArray, List.getElem_cons_succ, List.getElem_cons_zero, List.setIfInBounds_toArray, List.set_cons_zero, List.set_cons_succ]
    refine anyT_take0 (i := 7) (v := ?_) rfl (by kernel_rfl) (by kernel_rfl) (by kernel_rfl) (by kernel_rfl) (by kernel_rfl) (fun _ _ _ h => h) hC (.inl ⟨by rfl, fun _ _ => ?_⟩) ?_
    rotate_left 1
    · go_simp
      try with_reducible rfl
    simp only [Act.put, List.getElem_toArray, List.getElem_cons_succ, List.getElem_cons_zero, List.setIfInBounds_toArray, List.set_cons_zero, List.set_cons_succ]
    refine anyT_take0 (i := 8) (v := ?_) rfl (by kernel_rfl) (by kernel_rfl) (by kernel_rfl) (by kernel_rfl) (by kernel_rfl) (fun _ _ _ h => h) hC (.inl ⟨by rfl, fun _ _ => ?_⟩) ?_
    rotate_left 1
    · go_simp
      try with_reducible rfl
    simp only [Act.put, List.getElem_toArray, List.getElem_cons_succ, List.getElem_cons_zero, List.setIfInBounds_toArray, List.set_cons_zero, List.set_cons_succ]
    refine anyT_take0 (i := 9) (v := ?_) rfl (by kernel_rfl) (by kernel_rfl) (by kernel_rfl) (by kernel_rfl) (by kernel_rfl) (fun _ _ _ h => h) hC (.inl ⟨by rfl, fun _ _ => ?_⟩) ?_
    rotate_left 1
    · go_simp
      try with_reducible rfl
    simp only [Act.put, List.getElem_toArray, List.getElem_cons_succ, List.getElem_cons_zero, List.setIfInBounds_toArray, List.set_cons_zero, List.set_cons_succ]
    refine anyT_take0 (i := 10) (v := ?_) rfl (by kernel_rfl) (by kernel_rfl) (by kernel_rfl) (by kernel_rfl) (by kernel_rfl) (fun _ _ _ h => h) hC (.inl ⟨by rfl, fun _ _ => ?_⟩) ?_
    rotate_left 1
    · go_simp
      try with_reducible rfl
    simp only [Act.put, List.getElem_toArray, List.getElem_cons_succ, List.getElem_cons_zero, List.setIfInBounds_toArray, List.set_cons_zero, List.set_cons_succ]
    refine anyT_par [(1, rEq (.string ⟨key.toArray⟩)), (2, rBytes key), (4, rEq (.string ⟨salt.toArray⟩)), (5, rBytes salt), (11, rPair P), (12, rPair P), (13, rBytes P), (14, rEq (.int .i64 0)), (15, rBytes P), (16, rEq (.int .i64 0))] _ [1, 2, 4, 5, 11, 12, 13, 14, 15, 16] (fun _ => trivial) (by kernel_rfl) rfl (by kernel_rfl) rfl ?_
    refine ⟨_, rfl, fun w2 hk2 hK => ?_, fun u1 => ?_⟩
    rotate_left 1
    simp only [dstOf, Act.put, List.getElem?_toArray, List.getElem?_cons_succ, List.getElem?_cons_zero, Option.bind_some, List.setIfInBounds_toArray, List.set_cons_zero, List.set_cons_succ, List.nil_append, List.cons_append]
    rotate_left 1
    · have e1 := (hkD.trans hk2 (fun _ _ h => h)).cell k1 (fun h => h)
      go_wp2
      exact ⟨_, rfl, rfl, Keeps.refl _ _⟩
    refine ⟨_, rfl, fun w2 hk2 hK => ?_, fun u2 => ?_⟩
    rotate_left 1
    simp only [dstOf, Act.put, List.getElem?_toArray, List.getElem?_cons_succ, List.getElem?_cons_zero, Option.bind_some, List.setIfInBounds_toArray, List.set_cons_zero, List.set_cons_succ, List.nil_append, List.cons_append]
    rotate_left 1
    · obtain rfl : u1 = .string ⟨key.toArray⟩ := hK (1, u1) (by simp) (by kernel_rfl)
      obtain ⟨kc, w5, hcv, hb4, hk4⟩ := conv_low _ key HKS.out.1
      go_wp2_with fail
      rw [hcv]
      go_wp2
      exact ⟨_, rfl, hb4, hk4⟩
    refine ⟨_, rfl, fun w2 hk2 hK => ?_, fun u4 => ?_⟩
    rotate_left 1
    simp only [dstOf, Act.put, List.getElem?_toArray, List.getElem?_cons_succ, List.getElem?_cons_zero, Option.bind_some, List.setIfInBounds_toArray, List.set_cons_zero, List.set_cons_succ, List.nil_append, List.cons_append]
    rotate_left 1
    · have e1 := (hkD.trans hk2 (fun _ _ h => h)).cell k2 (fun h => h)
      go_wp2
      exact ⟨_, rfl, rfl, Keeps.refl _ _⟩
    refine ⟨_, rfl, fun w2 hk2 hK => ?_, fun u5 => ?_⟩
    rotate_left 1
    simp only [dstOf, Act.put, List.getElem?_toArray, List.getElem?_cons_succ, List.getElem?_cons_zero, Option.bind_some, List.setIfInBounds_toArray, List.set_cons_zero, List.set_cons_succ, List.nil_append, List.cons_append]
    rotate_left 1
    · obtain rfl : u4 = .string ⟨salt.toArray⟩ := hK (4, u4) (by simp) (by kernel_rfl)
      obtain ⟨kc, w5, hcv, hb4, hk4⟩ := conv_low _ salt HKS.out.2
      go_wp2_with fail
      rw [hcv]
      go_wp2
      exact ⟨_, rfl, hb4, hk4⟩
    refine ⟨_, rfl, fun w2 hk2 hK => ?_, fun u11 => ?_⟩
    rotate_left 1
    simp only [dstOf, Act.put, List.getElem?_toArray, List.getElem?_cons_succ, List.getElem?_cons_zero, Option.bind_some, List.setIfInBounds_toArray, List.set_cons_zero, List.set_cons_succ, List.nil_append, List.cons_append]
    rotate_left 1
    · have h2 : BRd w2 u2 key := hK (2, u2) (by simp) (by kernel_rfl)
      have h5 : BRd w2 u5 salt := hK (5, u5) (by simp) (by kernel_rfl)
      have hke := hkE.trans hk2 (fun _ _ h => h)
      go_wp2_with fail
      refine (HTN.out _ _ _ _ _ h2 h5 (BRd.keeps HD.out.2.2.2 hke) (BRd.keeps HD.out.2.2.1 hke)).mono ?_
      rintro e w5 ⟨v3, rfl, ho3, hk3⟩
      go_wp2
      exact ⟨_, rfl, ⟨_, rfl, ho3.bat.low⟩, hk3⟩
    refine ⟨_, rfl, fun w2 hk2 hK => ?_, fun u12 => ?_⟩
    rotate_left 1
    simp only [dstOf, Act.put, List.getElem?_toArray, List.getElem?_cons_succ, List.getElem?_cons_zero, Option.bind_some, List.setIfInBounds_toArray, List.set_cons_zero, List.set_cons_succ, List.nil_append, List.cons_append]
    rotate_left 1
    · have h11 : (rPair P).1 u11 w2 := hK (11, u11) (by simp) (by kernel_rfl)
      go_wp2
      exact ⟨_, rfl, h11, Keeps.refl _ _⟩
    refine ⟨_, rfl, fun w2 hk2 hK => ?_, fun u13 => ?_⟩
    rotate_left 1
    simp only [dstOf, Act.put, List.getElem?_toArray, List.getElem?_cons_succ, List.getElem?_cons_zero, Option.bind_some, List.setIfInBounds_toArray, List.set_cons_zero, List.set_cons_succ, List.nil_append, List.cons_append]
    rotate_left 1
    · have h12 : (rPair P).1 u12 w2 := hK (12, u12) (by simp) (by kernel_rfl)
      obtain ⟨v12, rfl, hb12⟩ := h12
      go_wp2
      exact ⟨_, rfl, hb12, Keeps.refl _ _⟩
    refine ⟨_, rfl, fun w2 hk2 hK => ?_, fun u14 => ?_⟩
    rotate_left 1
    simp only [dstOf, Act.put, List.getElem?_toArray, List.getElem?_cons_succ, List.getElem?_cons_zero, Option.bind_some, List.setIfInBounds_toArray, List.set_cons_zero, List.set_cons_succ, List.nil_append, List.cons_append]
    rotate_left 1
    · have h12 : (rPair P).1 u12 w2 := hK (12, u12) (by simp) (by kernel_rfl)
      obtain ⟨v12, rfl, hb12⟩ := h12
      go_wp2
      exact ⟨_, rfl, rfl, Keeps.refl _ _⟩
    refine ⟨_, rfl, fun w2 hk2 hK => ?_, fun u15 => ?_⟩
    rotate_left 1
    simp only [dstOf, Act.put, List.getElem?_toArray, List.getElem?_cons_succ, List.getElem?_cons_zero, Option.bind_some, List.setIfInBounds_toArray, List.set_cons_zero, List.set_cons_succ, List.nil_append, List.cons_append]
    rotate_left 1
    · have h13 : BRd w2 u13 P := hK (13, u13) (by simp) (by kernel_rfl)
      go_wp2
      exact ⟨_, rfl, h13, Keeps.refl _ _⟩
    refine ⟨_, rfl, fun w2 hk2 hK => ?_, fun u16 => ?_⟩
    rotate_left 1
    simp only [dstOf, Act.put, List.getElem?_toArray, List.getElem?_cons_succ, List.getElem?_cons_zero, Option.bind_some, List.setIfInBounds_toArray, List.set_cons_zero, List.set_cons_succ, List.nil_append, List.cons_append]
    rotate_left 1
    · obtain rfl : u14 = .int .i64 0 := hK (14, u14) (by simp) (by kernel_rfl)
      go_wp2
      exact ⟨_, rfl, rfl, Keeps.refl _ _⟩
    intro w5 hk5 hK
    have h15 : BRd w5 u15 P := hK (15, u15) (by simp)
    have hk05 := hkE.trans hk5 (fun _ _ h => h)
    have HPO := Lib.hid (rpopen_any u15 P w5 h15 (by omega))
    have HK5 := Lib.hid hk05
    clear hk05 hK h15 hkE hkD hC HTN
    go_wp2_with fail
    refine HPO.out.mono ?_
    intro e w6 hp
    unfold POpen at hp
    have hO := HO2.out
    clear HO2 HPO
    cases hpp : padOpen P with
    | some dx =>
      obtain ⟨d, x⟩ := dx
      rw [hpp] at hp hO
      simp only at hp hO
      subst hO
      obtain ⟨v4, rfl, ho4, hk4⟩ := hp
      have HO4 := Lib.hid (ho4.mono HK5.out.size)
      have HK6 := Lib.hid (HK5.out.trans hk4 (fun _ _ h => h))
      clear ho4 hk4 hpp
      go_wp2
      refine bodyPost_ret (results_tmp3 rfl _ _ _) rfl ?_
      exact ⟨_, rfl, HO4.out, HK6.out⟩
    | none =>
      rw [hpp] at hp hO
      simp only at hp hO
      subst hO
      obtain ⟨er, her, rfl, hk4⟩ := hp
      have HK6 := Lib.hid (HK5.out.trans hk4 (fun _ _ h => h))
      clear hk4 hpp
      go_wp2
      refine bodyPost_ret (results_tmp3 rfl _ _ _) rfl ?_
      exact ⟨_, rfl, BOwn.nil _ _, HK6.out⟩
  · have hO := HO.out
    rw [if_pos htg] at hO
    have hne : (D == TG) = false := beq_eq_false_iff_ne.2 htg
    subst hO
    clear HO
    refine region_T [] (fun _ => True) (by kernel_rfl) ?_
    have hC : (fun _ : World => True) w3.drew := trivial
    have hkD : Keeps (fun _ => False) w3 w3.drew := (Keeps.refl _ _).drew
    have hkE := HK3.out.trans hkD (fun _ _ h => h)
    refine anyT_take0 (i := 0) (v := ?_) rfl (by kernel_rfl) (by kernel_rfl) (by kernel_rfl) (by kernel_rfl) (by kernel_rfl) (fun _ _ _ h => h) hC (.inl ⟨by rfl, fun _ _ => ?_⟩) ?_
    rotate_left 1
    · go_simp
      try with_reducible rfl
    simp only [Act.put, List.getElem_toArray, List.getElem_cons_succ, List.getElem_cons_zero, List.setIfInBounds_toArray, List.set_cons_zero, List.set_cons_succ]
    refine anyT_take0 (i := 1) (v := ?_) rfl (by kernel_rfl) (by kernel_rfl) (by kernel_rfl) (by kernel_rfl) (by kernel_rfl) (fun _ _ _ h => h) hC (.inl ⟨by rfl, fun _ _ => ?_⟩) ?_
    rotate_left 1
    · go_simp
      try with_reducible rfl
    simp only [Act.put, List.getElem_toArray, List.getElem_cons_succ, List.getElem_cons_zero, List.setIfInBounds_toArray, List.set_cons_zero, List.set_cons_succ]
    refine anyT_take0 (i := 2) (v := ?_) rfl (by kernel_rfl) (by kernel_rfl) (by kernel_rfl) (by kernel_rfl) (by kernel_rfl) (fun _ _ _ h => h) hC (.inl ⟨by rfl, fun _ _ => ?_⟩) ?_
    rotate_left 1
    · go_simp
      try with_reducible rfl
    simp only [Act.put, List.getElem_toArray, List.getElem_cons_succ, List.getElem_cons_zero, List.setIfInBounds_toArray, List.set_cons_zero, List.set_cons_succ]
    refine anyT_take0 (i := 5) (v := ?_) rfl (by kernel_rfl) (by kernel_rfl) (by kernel_rfl) (by kernel_rfl) (by kernel_rfl) (fun _ _ _ h => h) hC (.inl ⟨by rfl, fun _ _ => ?_⟩) ?_
    rotate_left 1
    · go_simp
      try with_reducible rfl
    simp only [Act.put, List.getElem_toArray, List.getElem_cons_succ, List.getElem_cons_zero, List.setIfInBounds_toArray, List.set_cons_zero, List.set_cons_succ]
    refine anyT_take0 (i := 6) (v := ?_) rfl (by kernel_rfl) (by kernel_rfl) (by kernel_rfl) (by kernel_rfl) (by kernel_rfl) (fun _ _ _ h => h) hC (.inl ⟨by rfl, fun _ _ => ?_⟩) ?_
    rotate_left 1
    · go_simp
      try with_reducible rfl
    simp only [Act.put, List.getElem_toArray, List.getElem_cons_succ, List.getElem_cons_zero, List.setIfInBounds_toArray, List.set_cons_zero, List.set_cons_succ]
    refine anyT_take0 (i := 7) (v := ?_) rfl (by kernel_rfl) (by kernel_rfl) (by kernel_rfl) (by kernel_rfl) (by kernel_rfl) (fun _ _ _ h => h) hC (.inl ⟨by rfl, fun _ _ => ?_⟩) ?_
    rotate_left 1
    · go_simp
      try with_reducible rfl
    simp only [Act.put, List.getElem_toArray, List.getElem_cons_succ, List.getElem_cons_zero, List.setIfInBounds_toArray, List.set_cons_zero, List.set_cons_succ]
    refine anyT_take0 (i := 8) (v := ?_) rfl (by kernel_rfl) (by kernel_rfl) (by kernel_rfl) (by kernel_rfl) (by kernel_rfl) (fun _ _ _ h => h) hC (.inl ⟨by rfl, fun _ _ => ?_⟩) ?_
    rotate_left 1
    · go_simp
      try with_reducible rfl
    simp only [Act.put, List.getElem_toArray, List.getElem_cons_succ, List.getElem_cons_zero, List.setIfInBounds_toArray, List.set_cons_zero, List.set_cons_succ]
    refine anyT_par [(3, rEq (.string ⟨D.toArray⟩)), (4, rEq (.agg #[.int .i64 spi, .string ⟨key.toArray⟩, .string ⟨salt.toArray⟩, .string ⟨mac.toArray⟩, .bool esn, .int .i64 window])), (9, rEq (.string ⟨TG.toArray⟩)), (10, rEq (.bool true))] _ [3, 4, 9, 10] (fun _ => trivial) (by kernel_rfl) rfl (by kernel_rfl) rfl ?_
    refine ⟨_, rfl, fun w2 hk2 hK => ?_, fun u3 => ?_⟩
    rotate_left 1
    simp only [dstOf, Act.put, List.getElem?_toArray, List.getElem?_cons_succ, List.getElem?_cons_zero, Option.bind_some, List.setIfInBounds_toArray, List.set_cons_zero, List.set_cons_succ, List.nil_append, List.cons_append]
    rotate_left 1
    · have tx := (BRd.keeps HD.out.1 (hkE.trans hk2 (fun _ _ h => h))).text
      go_wp2_with fail
      exact ⟨_, rfl, rfl, Keeps.refl _ _⟩
    refine ⟨_, rfl, fun w2 hk2 hK => ?_, fun u4 => ?_⟩
    rotate_left 1
    simp only [dstOf, Act.put, List.getElem?_toArray, List.getElem?_cons_succ, List.getElem?_cons_zero, Option.bind_some, List.setIfInBounds_toArray, List.set_cons_zero, List.set_cons_succ, List.nil_append, List.cons_append]
    rotate_left 1
    · have d0 := ((HR3.out.keeps (hkD.trans hk2 (fun _ _ h => h)) (fun h => h))).cell 0
      have d1 := ((HR3.out.keeps (hkD.trans hk2 (fun _ _ h => h)) (fun h => h))).cell 1
      have d2 := ((HR3.out.keeps (hkD.trans hk2 (fun _ _ h => h)) (fun h => h))).cell 2
      have d3 := ((HR3.out.keeps (hkD.trans hk2 (fun _ _ h => h)) (fun h => h))).cell 3
      have d4 := ((HR3.out.keeps (hkD.trans hk2 (fun _ _ h => h)) (fun h => h))).cell 4
      have d5 := ((HR3.out.keeps (hkD.trans hk2 (fun _ _ h => h)) (fun h => h))).cell 5
      go_wp2
      exact ⟨_, rfl, rfl, Keeps.refl _ _⟩
    refine ⟨_, rfl, fun w2 hk2 hK => ?_, fun u9 => ?_⟩
    rotate_left 1
    simp only [dstOf, Act.put, List.getElem?_toArray, List.getElem?_cons_succ, List.getElem?_cons_zero, Option.bind_some, List.setIfInBounds_toArray, List.set_cons_zero, List.set_cons_succ, List.nil_append, List.cons_append]
    rotate_left 1
    · obtain rfl : u4 = .agg #[.int .i64 spi, .string ⟨key.toArray⟩, .string ⟨salt.toArray⟩, .string ⟨mac.toArray⟩, .bool esn, .int .i64 window] := hK (4, u4) (by simp) (by kernel_rfl)
      go_wp2_with fail
      refine (HTG.out _ _ (BRd.keeps HD.out.2.1 (hkE.trans hk2 (fun _ _ h => h)))).mono ?_
      rintro e w5 ⟨rfl, hk5⟩
      go_wp2
      exact ⟨_, rfl, rfl, hk5⟩
    refine ⟨_, rfl, fun w2 hk2 hK => ?_, fun u10 => ?_⟩
    rotate_left 1
    simp only [dstOf, Act.put, List.getElem?_toArray, List.getElem?_cons_succ, List.getElem?_cons_zero, Option.bind_some, List.setIfInBounds_toArray, List.set_cons_zero, List.set_cons_succ, List.nil_append, List.cons_append]
    rotate_left 1
    · obtain rfl : u3 = .string ⟨D.toArray⟩ := hK (3, u3) (by simp) (by kernel_rfl)
      obtain rfl : u9 = .string ⟨TG.toArray⟩ := hK (9, u9) (by simp) (by kernel_rfl)
      go_wp2
      exact ⟨_, rfl, rfl, Keeps.refl _ _⟩
    intro w4 hk4 hK
    obtain rfl : u10 = .bool true := hK (10, u10) (by simp)
    have HK4 := Lib.hid (hkE.trans hk4 (fun _ _ h => h))
    have HR4 := Lib.hid (HR3.out.keeps (hkD.trans hk4 (fun _ _ h => h)) (fun h => h))
    clear hK hk4 hkD hkE hC
    go_wp2
    refine bodyPost_ret (results_tmp3 rfl _ _ _) rfl ?_
    exact ⟨_, rfl, BOwn.nil _ _, HK4.out⟩
theorem ropen_any (sa : SaV) (seq : Nat) (bv : Value) (b : List UInt8) (w : World) (hsz : SizedSa sa) (hb : BRd w bv b) (hs : seq < 18446744073709551616) (hbl : b.length ≤ 9000) :
    Calls Tryd.prog 18 #[.agg (saC sa), .int .u64 seq, bv] w (OpenE sa seq b w) := by
  by_cases h : shapeE sa seq b = 0
  · exact ropen_good sa seq bv b w hsz hb hs h hbl
  · have hO := openS_bad sa seq b h
    unfold OpenE
    rw [hO]
    have hE : shapeE sa seq b = if okN sa seq = false then 1 else if b.length < 36 then 8 else if b.length % 4 ≠ 0 ∨ (val4 b : Int) ≠ sa.spi ∨ val4 (b.drop 4) ≠ seq % 4294967296 then 4 else 0 := rfl
    by_cases h1 : okN sa seq = false
    · rw [if_pos h1] at hE
      rw [hE]
      refine (ropen_arg sa seq bv w hsz h1).mono ?_
      rintro e w' ⟨rfl, hk⟩
      exact ⟨_, rfl, BOwn.nil _ _, hk⟩
    · rw [if_neg h1] at hE
      have h1' : okN sa seq = true := by simpa using h1
      by_cases h2 : b.length < 36
      · rw [if_pos h2] at hE
        rw [hE]
        refine (ropen_more sa seq bv b w hsz hb h1' h2).mono ?_
        rintro e w' ⟨rfl, hk⟩
        exact ⟨_, rfl, BOwn.nil _ _, hk⟩
      · rw [if_neg h2] at hE
        by_cases h3 : b.length % 4 ≠ 0 ∨ (val4 b : Int) ≠ sa.spi ∨ val4 (b.drop 4) ≠ seq % 4294967296
        · rw [if_pos h3] at hE
          rw [hE]
          refine (ropen_form sa seq bv b w hsz hb h1' (by omega) hbl hs h3).mono ?_
          rintro e w' ⟨rfl, hk⟩
          exact ⟨_, rfl, BOwn.nil _ _, hk⟩
        · rw [if_neg h3] at hE
          exact absurd hE h
end Go.Proofs.YtekaoknpjpbjgaaDoor
