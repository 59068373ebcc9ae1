/- Words, walks and plain laws that the claim leans on, part 32. -/
import Derived.Test.YtekaoknpjpbjgaaDoorM7
import Derived.Test.YtekaoknpjpbjgaaDoorM19
import Derived.Test.YtekaoknpjpbjgaaDoorM25
import Derived.Test.YtekaoknpjpbjgaaDoorM26
import Derived.Test.YtekaoknpjpbjgaaDoorM29
import Derived.Test.YtekaoknpjpbjgaaDoorM31

/-! The law's example holds. -/
namespace Go.Proofs.YtekaoknpjpbjgaaDoor
set_option linter.unusedVariables false
set_option linter.unusedSimpArgs false
open Go.RowKit

theorem open_any (sa : SaV) (seq : Nat) (bv : Value) (b : List UInt8) (w : World) (hb : BRd w bv b) (hs : seq < 18446744073709551616) (hbl : b.length ≤ 65000) (hT : Table w) :
    Calls Tryd.prog 17 #[.agg (saC sa), .int .u64 seq, bv] w (OpenE sa seq b w) := by
  by_cases h : shapeE sa seq b = 0
  · exact open_good sa seq bv b w hb hs h hbl hT
  · refine (open_bad sa seq bv b w hb hs h).mono ?_
    rintro e w' ⟨rfl, hk⟩
    unfold OpenE
    rw [openS_bad sa seq b h]
    exact ⟨_, rfl, BOwn.nil _ _, hk⟩

def abc : List UInt8 := [97, 98, 99]
set_option maxRecDepth 100000 in
set_option maxHeartbeats 1000000 in
theorem eawake_any (w : World) (hT : Table w) : Calls Tryd.prog 13 #[] w fun e w' => e = .returned (.bool true) ∧ Keeps (fun _ => False) w w' := by
  obtain ⟨B, hB⟩ : ∃ B, sealS oneS 7 abc 4 = B := ⟨_, rfl⟩
  have hok7 : okN oneS 7 = true := by decide
  have hok8 : okN oneS 8 = true := by decide
  have hBl : B.length = 40 := by rw [← hB, sealS_len]; rfl
  have O7 : openS oneS 7 B = (0, abc, 4) := by rw [← hB]; exact openS_sealS oneS 7 abc 4 hok7
  have O8 : openS oneS 8 B = (4, [], 0) := by rw [← hB]; exact openS_low oneS 7 8 abc 4 hok7 hok8 (by decide)
  have HS := Lib.hid (fun (w : World) (v : Value) (hd : BRd w v abc) (hT : Table w) => seal_ok oneS 7 v abc 4 w hd hok7 (by decide) hT (by decide))
  rw [hB] at HS
  have HO7 := Lib.hid (fun (w : World) (v : Value) (hd : BRd w v B) (hT : Table w) => open_any oneS 7 v B w hd (by decide) (by omega) hT)
  have HO8 := Lib.hid (fun (w : World) (v : Value) (hd : BRd w v B) (hT : Table w) => open_any oneS 8 v B w hd (by decide) (by omega) hT)
  unfold OpenE at HO7 HO8
  simp only [O7, O8] at HO7 HO8
  have H1 := Lib.hid one_any
  generalize saC oneS = SA at *
  have HT := Lib.hid hT
  have HL := Lib.hid hBl
  clear hB hok7 hok8 O7 O8 hT hBl
  go_enter Tryd.func13, Tryd.ntmps13
  go_wp2_with fail
  refine (H1.out _).mono ?_
  rintro e w1 ⟨rfl, hk1⟩
  have kc := fun (w : World) (C : Array Value) (n c : Nat) => Lib.run_convert_bytes_const (P := Tryd.prog) w 25 5 C n c Tryd.underlying25 Tryd.underlying5
  have hb1 := BAt.low (BAt.litF w1 #[.int .u8 97, .int .u8 98, .int .u8 99] abc 3 5 (3, 4) rfl rfl (by omega))
  have hk1' := hk1.alloc (.cells #[.int .u8 97, .int .u8 98, .int .u8 99] 5 (3, 4))
  have HS1 := Lib.hid (HS.out _ _ hb1 (HT.out.keeps hk1'))
  go_wp2_with fail
  refine HS1.out.mono ?_
  rintro e w2 ⟨v2, rfl, ho2, hk2⟩
  have HK2 := Lib.hid (hk1'.trans hk2 (fun _ _ h => h))
  obtain ⟨a2, c2, rfl, -, -⟩ := ho2.slice
  rw [HL.out] at ho2 ⊢
  have HB2 := Lib.hid (show BRd w2 _ B from ho2.bat.low)
  clear ho2 hk2 hk1 hk1' hb1 HS1 HS
  go_wp2_with fail
  refine (H1.out _).mono ?_
  rintro e w3 ⟨rfl, hk3⟩
  have HK3 := Lib.hid (HK2.out.trans hk3 (fun _ _ h => h))
  have HB3 := Lib.hid (BRd.keeps HB2.out hk3)
  clear hk3 HB2 HK2
  go_wp2_with fail
  refine (HO7.out _ _ HB3.out (HT.out.keeps HK3.out)).mono ?_
  rintro e w4 ⟨v4, rfl, ho4, hk4⟩
  have HK4 := Lib.hid (HK3.out.trans hk4 (fun _ _ h => h))
  have HB4 := Lib.hid (BRd.keeps HB3.out hk4)
  have HA4 := Lib.hid (show BRd w4 _ abc from ho4.bat.low)
  clear hk4 HB3 HK3 HO7 ho4
  go_wp2_with fail
  refine (H1.out _).mono ?_
  rintro e w5 ⟨rfl, hk5⟩
  have HK5 := Lib.hid (HK4.out.trans hk5 (fun _ _ h => h))
  have HB5 := Lib.hid (BRd.keeps HB4.out hk5)
  have HA5 := Lib.hid (BRd.keeps HA4.out hk5)
  clear hk5 HB4 HK4 HA4
  go_wp2_with fail
  refine (HO8.out _ _ HB5.out (HT.out.keeps HK5.out)).mono ?_
  rintro e w6 ⟨v6, rfl, -, hk6⟩
  have HK6 := Lib.hid (HK5.out.trans hk6 (fun _ _ h => h))
  have HA6 := Lib.hid (BRd.keeps HA5.out hk6)
  clear hk6 HB5 HK5 HA5 HO8
  have hkp := HK6.out.alloc (.cells #[.int .u8 0, .int .u8 0, .int .u8 1, .int .u8 0, .int .u8 0, .int .u8 0, .int .u8 0, .int .u8 2] 5)
  have hbp : BRd (w6.alloc (.cells #[.int .u8 0, .int .u8 0, .int .u8 1, .int .u8 0, .int .u8 0, .int .u8 0, .int .u8 0, .int .u8 2] 5)) (.slice (some ⟨w6.heap.size, 0, none⟩) 8 8) [0, 0, 1, 0, 0, 0, 0, 2] := (BOwn.lit w6 _ [0, 0, 1, 0, 0, 0, 0, 2] 8 0 (by kernel_rfl) rfl (by decide) (Nat.zero_le _)).bat.low
  have hap := BRd.keeps HA6.out ((Keeps.refl (fun _ => False) w6).alloc (.cells #[.int .u8 0, .int .u8 0, .int .u8 1, .int .u8 0, .int .u8 0, .int .u8 0, .int .u8 0, .int .u8 2] 5))
  have HPK := Lib.hid (peek_any _ _ _ hbp)
  rw [show peekS [0, 0, 1, 0, 0, 0, 0, 2] = (256, 2, 0) from by decide] at HPK
  go_wp2_with fail
  refine HPK.out.mono ?_
  rintro e w7 ⟨rfl, m, rfl⟩
  have hk7 := hkp.drewN m
  have ha7 := BRd.keeps hap ((Keeps.refl (fun _ => False) _).drewN m)
  have HTX := ha7.text
  have L0 : ∀ w, Calls Tryd.prog 16 #[.int .i64 0] w fun e w' => e = .returned (.int .i64 36) ∧ w = w' := fun w => elen_any 0 w (by decide)
  have L3 : ∀ w, Calls Tryd.prog 16 #[.int .i64 3] w fun e w' => e = .returned (.int .i64 40) ∧ w = w' := fun w => elen_any 3 w (by decide)
  generalize (w6.alloc (.cells #[.int .u8 0, .int .u8 0, .int .u8 1, .int .u8 0, .int .u8 0, .int .u8 0, .int .u8 0, .int .u8 2] 5)).drewN m = w7 at hk7 HTX ⊢
  have HL0 := Lib.hid L0
  have HL3 := Lib.hid L3
  have HK7 := Lib.hid hk7
  clear L0 L3 hk7 ha7 hap hbp hkp HPK
  go_wp2_with fail
  refine (HL0.out _).mono ?_
  rintro e w8 ⟨rfl, rfl⟩
  go_wp2_with fail
  refine (HL3.out _).mono ?_
  rintro e w8 ⟨rfl, rfl⟩
  go_wp2
  go_ret
  exact ⟨rfl, HK7.out⟩
end Go.Proofs.YtekaoknpjpbjgaaDoor

/-! The law EspBack. -/
namespace Go.Proofs.YtekaoknpjpbjgaaDoor
set_option linter.unusedVariables false
set_option linter.unusedSimpArgs false
open Go.RowKit

theorem u64_nat {q : Int} (h : (Lit.int .u64 q).wf = true) : ∃ s : Nat, q = s ∧ s < 18446744073709551616 := by
  simp only [Lit.wf, IntKind.min, IntKind.max, IntKind.signed, IntKind.bits, Bool.and_eq_true, decide_eq_true_eq, if_false, Bool.false_eq_true] at h
  exact ⟨q.toNat, by omega, by omega⟩
set_option maxRecDepth 100000 in
set_option maxHeartbeats 2000000 in
theorem lback_any (sa : SaV) (s : Nat) (dv : Value) (data : List UInt8) (next : Int) (w : World) (hsz : SizedSa sa) (hs : s < 18446744073709551616) (hd : BRd w dv data) (hT : Table w) :
    Calls Tryd.prog 5 #[.agg (saC sa), .int .u64 s, dv, .int .i64 next] w fun e w' => e = .returned (.bool true) ∧ Keeps (fun _ => False) w w' := by
  have hka := (Keeps.refl (fun _ => False) w).alloc (.cells (saC sa) 23)
  have hra := RowAt.new w (saC sa) 23
  have HF := Lib.hid (fun w => few_any sa w hsz)
  obtain ⟨da, dc, rfl, -, -⟩ := BAt.slice hd
  generalize fewS sa = fw at *
  have HAW := Lib.hid eawake_any
  have HT := Lib.hid hT
  have HD := Lib.hid hd
  by_cases h1 : fw = true ∧ data.length ≤ 600
  · obtain ⟨rfl, h2⟩ := h1
    have h2' : (data.length : Int) ≤ 600 := by omega
    by_cases h3 : okN sa s = false ∨ next < 0 ∨ 255 < next
    · have HS := Lib.hid (fun (w : World) (dv : Value) => seal_bad sa s dv next w h3)
      obtain ⟨spi, key, salt, mac, esn, window⟩ := sa
      unfold saC at hka hra HF HS ⊢
      simp only at hka hra HF HS ⊢
      have HKA := Lib.hid hka
      have HRA := Lib.hid hra
      clear hka hra hs hd hT h3 h2 hsz
      go_enter Tryd.func5, Tryd.ntmps5
      go_wp2_with fail
      refine (HF.out _).mono ?_
      rintro e w1 ⟨rfl, hk1⟩
      have HK1 := Lib.hid (HKA.out.trans hk1 (fun _ _ h => h))
      have HR1 := Lib.hid (HRA.out.keeps hk1 (fun h => h))
      clear hk1 HF
      have d0 := (HR1.out).cell 0
      have d1 := (HR1.out).cell 1
      have d2 := (HR1.out).cell 2
      have d3 := (HR1.out).cell 3
      have d4 := (HR1.out).cell 4
      have d5 := (HR1.out).cell 5
      go_wp2_with fail
      refine (HS.out _ _).mono ?_
      rintro e w2 ⟨rfl, hk2⟩
      have HK2 := Lib.hid (HK1.out.trans hk2 (fun _ _ h => h))
      clear hk2 d0 d1 d2 d3 d4 d5 HS HR1
      go_wp2_with fail
      refine (HAW.out _ (HT.out.keeps HK2.out)).mono ?_
      rintro e w3 ⟨rfl, hk3⟩
      have HK3 := Lib.hid (HK2.out.trans hk3 (fun _ _ h => h))
      clear hk3
      go_wp2
      go_ret
      exact ⟨rfl, HK3.out⟩
    · have hok : okN sa s = true := by
        cases h : okN sa s with
        | true => rfl
        | false => exact absurd (.inl h) h3
      have hn : 0 ≤ next ∧ next ≤ 255 := by
        constructor
        · exact Int.not_lt.1 fun h => h3 (.inr (.inl h))
        · exact Int.not_lt.1 fun h => h3 (.inr (.inr h))
      obtain ⟨x, hx⟩ : ∃ x : UInt8, (x.toNat : Int) = next := ⟨UInt8.ofNat next.toNat, by rw [UInt8.toNat_ofNat']; omega⟩
      subst hx
      obtain ⟨B, hB⟩ : ∃ B, sealS sa s data x = B := ⟨_, rfl⟩
      have hBl : B.length = lenS data.length := by rw [← hB, sealS_len]
      have hpb := padLen_bd data.length
      have hLS : lenS data.length = 32 + padLen data.length := rfl
      obtain ⟨p1, p2⟩ := sealS_low sa s data x hok
      rw [hB] at p1 p2
      have hPK : peekS B = (sa.spi, ((s % 4294967296 : Nat) : Int), 0) := by
        unfold peekS
        rw [if_neg (by omega), p1, p2]
      have hO : openS sa s B = (0, data, x.toNat) := by rw [← hB]; exact openS_sealS sa s data x hok
      have HS := Lib.hid (fun (w : World) (v : Value) (hd : BRd w v data) (hT : Table w) => seal_ok sa s v data x w hd hok (by omega) hT hs)
      rw [hB] at HS
      have HO := Lib.hid (fun (w : World) (v : Value) (hd : BRd w v B) (hT : Table w) => open_any sa s v B w hd hs (by omega) hT)
      unfold OpenE at HO
      simp only [hO] at HO
      have HPK := Lib.hid (fun (w : World) (v : Value) (hd : BRd w v B) => peek_any v B w hd)
      rw [hPK] at HPK
      have hmy : mayS sa = true := by
        unfold okN at hok
        simp only [Bool.and_eq_true] at hok
        exact hok.1.1
      have HC := Lib.hid (check_any sa)
      rw [hmy, show mayE true = 0 from rfl] at HC
      have HL := Lib.hid (fun w => elen_any data.length w (by omega))
      rw [← hBl] at HL
      obtain ⟨spi, key, salt, mac, esn, window⟩ := sa
      unfold saC at hka hra HF HS HO HC ⊢
      simp only at hka hra HF HS HO HPK HC ⊢
      obtain ⟨z, hz⟩ : ∃ z : Int, (s : Int) = z := ⟨_, rfl⟩
      have hzm : ((s % 4294967296 : Nat) : Int) = z % 4294967296 := by omega
      have hz0 : 0 ≤ z := by omega
      have hm0 : 0 ≤ z % 4294967296 ∧ z % 4294967296 ≤ 4294967295 := by omega
      have hzt : z.tmod 4294967296 = z % 4294967296 := Int.tmod_eq_emod_of_nonneg hz0
      rw [hzm] at HPK
      rw [hz] at HS HO ⊢
      generalize (x.toNat : Int) = nx at *
      have HKA := Lib.hid hka
      have HRA := Lib.hid hra
      obtain ⟨m, hm⟩ : ∃ m : Int, z % 4294967296 = m := ⟨_, rfl⟩
      rw [hm] at HPK hzt hm0
      have HM := Lib.hid hm
      clear hm hka hra hs hd hT h3 h2 hsz hok hmy hPK hO p1 p2 hLS hpb hBl hB hz hzm hn
      go_enter Tryd.func5, Tryd.ntmps5
      go_wp2_with fail
      refine (HF.out _).mono ?_
      rintro e w1 ⟨rfl, hk1⟩
      have HK1 := Lib.hid (HKA.out.trans hk1 (fun _ _ h => h))
      have HR1 := Lib.hid (HRA.out.keeps hk1 (fun h => h))
      clear hk1 HF
      have HSX := Lib.hid (HS.out w1 _ (BRd.keeps HD.out HK1.out) (HT.out.keeps HK1.out))
      have d0 := (HR1.out).cell 0
      have d1 := (HR1.out).cell 1
      have d2 := (HR1.out).cell 2
      have d3 := (HR1.out).cell 3
      have d4 := (HR1.out).cell 4
      have d5 := (HR1.out).cell 5
      go_wp2_with fail
      refine HSX.out.mono ?_
      rintro e w2 ⟨v2, rfl, ho2, hk2⟩
      have HK2 := Lib.hid (HK1.out.trans hk2 (fun _ _ h => h))
      have HR2 := Lib.hid (HR1.out.keeps hk2 (fun h => h))
      have HB2 := Lib.hid (show BRd w2 _ B from ho2.bat.low)
      obtain ⟨a2, c2, rfl, -, -⟩ := ho2.slice
      clear hk2 ho2 d0 d1 d2 d3 d4 d5 HS HSX HR1
      go_wp2_with fail
      refine (HPK.out _ _ HB2.out).mono ?_
      rintro e w3 ⟨rfl, n3, rfl⟩
      have HK3 := Lib.hid (HK2.out.drewN n3)
      have HR3 := Lib.hid (HR2.out.drewN n3)
      have HB3 := Lib.hid (BRd.keeps HB2.out ((Keeps.refl (fun _ => False) w2).drewN n3))
      generalize w2.drewN n3 = w3 at *
      have d0 := (HR3.out).cell 0
      have d1 := (HR3.out).cell 1
      have d2 := (HR3.out).cell 2
      have d3 := (HR3.out).cell 3
      have d4 := (HR3.out).cell 4
      have d5 := (HR3.out).cell 5
      clear HR2 HB2 HK2 HPK
      go_wp2_with fail
      refine (HO.out _ _ HB3.out (HT.out.keeps HK3.out)).mono ?_
      rintro e w4 ⟨v4, rfl, ho4, hk4⟩
      have HK4 := Lib.hid (HK3.out.trans hk4 (fun _ _ h => h))
      have HR4 := Lib.hid (HR3.out.keeps hk4 (fun h => h))
      have HD4 := Lib.hid (show BRd w4 _ data from ho4.bat.low)
      clear hk4 ho4 d0 d1 d2 d3 d4 d5 HO HB3 HK3 HR3
      go_wp2_with fail
      refine (HAW.out _ (HT.out.keeps HK4.out)).mono ?_
      rintro e w5 ⟨rfl, hk5⟩
      have HK5 := Lib.hid (HK4.out.trans hk5 (fun _ _ h => h))
      have HR5 := Lib.hid (HR4.out.keeps hk5 (fun h => h))
      have HD5 := Lib.hid (BRd.keeps HD4.out hk5)
      clear hk5 HK4 HR4 HD4
      have d0 := (HR5.out).cell 0
      have d1 := (HR5.out).cell 1
      have d2 := (HR5.out).cell 2
      have d3 := (HR5.out).cell 3
      have d4 := (HR5.out).cell 4
      have d5 := (HR5.out).cell 5
      go_wp2_with fail
      refine (HC.out _).mono ?_
      rintro e w6 ⟨rfl, hk6⟩
      have HK6 := Lib.hid (HK5.out.trans hk6 (fun _ _ h => h))
      have e0 := (HR5.out.keeps hk6 (fun h => h)).cell 0
      have tx1 := (BRd.keeps HD5.out hk6).text
      have tx2 := (BRd.keeps HD.out HK6.out).text
      clear hk6 HK5 HR5 HD5 d0 d1 d2 d3 d4 d5
      go_wp2_with fail
      refine (HL.out _).mono ?_
      rintro e w7 ⟨rfl, rfl⟩
      go_wp2
      go_ret
      exact ⟨rfl, HK6.out⟩
  · have h2 : fw = false ∨ 600 < data.length := by
      cases fw with
      | false => exact .inl rfl
      | true => exact .inr (Nat.lt_of_not_le fun h => h1 ⟨rfl, h⟩)
    obtain ⟨spi, key, salt, mac, esn, window⟩ := sa
    unfold saC at hka hra HF ⊢
    simp only at hka hra HF ⊢
    have HKA := Lib.hid hka
    have HRA := Lib.hid hra
    clear hka hra hs hd hT hsz h1
    go_enter Tryd.func5, Tryd.ntmps5
    go_wp2_with fail
    refine (HF.out _).mono ?_
    rintro e w1 ⟨rfl, hk1⟩
    have HK1 := Lib.hid (HKA.out.trans hk1 (fun _ _ h => h))
    have HR1 := Lib.hid (HRA.out.keeps hk1 (fun h => h))
    clear hk1 HF
    cases fw with
    | false =>
      go_wp2
      go_ret
      exact ⟨rfl, HK1.out⟩
    | true =>
      have h3 : (600 : Int) < data.length := by rcases h2 with h2 | h2; cases h2; omega
      clear h2
      go_wp2
      go_ret
      exact ⟨rfl, HK1.out⟩
theorem lback_row (sa : SaV) (seq : Int) (dv : Value) (data : List UInt8) (next : Int) (w : World) (hsz : SizedSa sa) (hq : (Lit.int .u64 seq).wf = true) (hd : BAt w (· < w.heap.size) dv data) (_ : (Lit.int .i64 next).wf = true) (hT : Table w) :
    Calls Tryd.prog 5 #[.agg (saC sa), .int .u64 seq, dv, .int .i64 next] w fun e w' => e = .returned (.bool true) ∧ Keeps (fun _ => False) w w' := by
  obtain ⟨s, rfl, hs⟩ := u64_nat hq
  exact lback_any sa s dv data next w hsz hs hd hT
end Go.Proofs.YtekaoknpjpbjgaaDoor

/-! The law EspNumbers. -/
namespace Go.Proofs.YtekaoknpjpbjgaaDoor
set_option linter.unusedVariables false
set_option linter.unusedSimpArgs false
open Go.RowKit

def sealX (sa : SaV) (s : Nat) (data : List UInt8) (x : UInt8) : Int × List UInt8 := if okN sa s = true then (0, sealS sa s data x) else (1, [])
theorem seal_any (sa : SaV) (s : Nat) (dv : Value) (data : List UInt8) (x : UInt8) (w : World) (hd : BRd w dv data) (hl : data.length ≤ 65000) (hT : Table w) (hs : s < 18446744073709551616) :
    Calls Tryd.prog 11 #[.agg (saC sa), .int .u64 s, dv, .int .i64 (x.toNat : Int)] w fun e w' => ∃ v, e = .returned (.tuple #[v, .int .i64 (sealX sa s data x).1]) ∧ BOwn w' w.heap.size v (sealX sa s data x).2 ∧ Keeps (fun _ => False) w w' := by
  unfold sealX
  by_cases h : okN sa s = true
  · rw [if_pos h]
    exact seal_ok sa s dv data x w hd h hl hT hs
  · rw [if_neg h]
    refine (seal_bad sa s dv (x.toNat : Int) w (.inl (by simpa using h))).mono ?_
    rintro e w' ⟨rfl, hk⟩
    exact ⟨_, rfl, BOwn.nil _ _, hk⟩

theorem be8_inj (x y : Nat) (hx : x < 18446744073709551616) (hy : y < 18446744073709551616) : be8 x = be8 y ↔ x = y := by
  constructor
  · intro h
    have h1 := congrArg val4 h
    have h2 := congrArg (fun l => val4 (List.drop 4 l)) h
    unfold be8 at h1 h2
    rw [val4_be4, val4_be4] at h1
    rw [List.drop_left' (be4_len _), List.drop_left' (be4_len _)] at h2
    have e1 := val4_be4 x []
    have e2 := val4_be4 y []
    rw [List.append_nil] at e1 e2
    rw [e1, e2] at h2
    omega
  · rintro rfl; rfl
theorem seal_first (sa : SaV) (s : Nat) (data : List UInt8) (x : UInt8) : (sealS sa s data x).take 4 = be4 sa.spi.toNat := by
  unfold sealS frontS
  rw [List.append_assoc, List.append_assoc, List.append_assoc, List.take_left' (be4_len _)]
theorem seal_iv (sa : SaV) (s : Nat) (data : List UInt8) (x : UInt8) : ((sealS sa s data x).drop 8).take 8 = be8 s := by
  unfold sealS frontS
  rw [List.append_assoc, List.append_assoc, List.drop_left' (by simp [be4_len]), List.take_left' (be8_len _)]
theorem seal_inj (sa : SaV) (s t : Nat) (data : List UInt8) (x : UInt8) (hs : s < 18446744073709551616) (ht : t < 18446744073709551616) : sealS sa s data x = sealS sa t data x ↔ s = t := by
  constructor
  · intro h
    have := congrArg (fun l => (List.drop 8 l).take 8) h
    simp only [seal_iv] at this
    exact (be8_inj s t hs ht).1 this
  · rintro rfl; rfl
theorem okN_false {sa : SaV} {s : Nat} (h : okN sa s = false) (hm : mayS sa = true) (h0 : s ≠ 0) : sa.esn = false ∧ 4294967295 < s := by
  unfold okN at h
  rw [hm, decide_eq_true (show 1 ≤ s by omega)] at h
  simp only [Bool.true_and, Bool.or_eq_false_iff, decide_eq_false_iff_not] at h
  exact ⟨h.1, by omega⟩

set_option maxRecDepth 100000 in
set_option maxHeartbeats 2000000 in
theorem lnumbers_any (sa : SaV) (s t : Nat) (dv : Value) (data : List UInt8) (w : World) (hsz : SizedSa sa) (hs : s < 18446744073709551616) (ht : t < 18446744073709551616) (hd : BRd w dv data) (hT : Table w) :
    Calls Tryd.prog 7 #[.agg (saC sa), .int .u64 s, .int .u64 t, dv] w fun e w' => e = .returned (.bool true) ∧ Keeps (fun _ => False) w w' := by
  have hka := (Keeps.refl (fun _ => False) w).alloc (.cells (saC sa) 23)
  have hra := RowAt.new w (saC sa) 23
  have HF := Lib.hid (fun w => few_any sa w hsz)
  obtain ⟨da, dc, rfl, -, -⟩ := BAt.slice hd
  generalize fewS sa = fw at *
  have HAW := Lib.hid eawake_any
  have HT := Lib.hid hT
  have HD := Lib.hid hd
  by_cases h1 : fw = true ∧ data.length ≤ 300
  · obtain ⟨rfl, h2⟩ := h1
    have h2' : (data.length : Int) ≤ 300 := by omega
    have HS1 := Lib.hid (fun (w : World) (v : Value) (hd : BRd w v data) (hT : Table w) => seal_any sa s v data 4 w hd (by omega) hT hs)
    have HS2 := Lib.hid (fun (w : World) (v : Value) (hd : BRd w v data) (hT : Table w) => seal_any sa t v data 4 w hd (by omega) hT ht)
    rw [show (((4 : UInt8).toNat : Nat) : Int) = 4 from rfl] at HS1 HS2
    have HC := Lib.hid (check_any sa)
    obtain ⟨z, hz⟩ : ∃ z : Int, (s : Int) = z := ⟨_, rfl⟩
    obtain ⟨y, hy⟩ : ∃ y : Int, (t : Int) = y := ⟨_, rfl⟩
    have hz0 : 0 ≤ z := by omega
    have hy0 : 0 ≤ y := by omega
    rw [hz] at HS1 ⊢
    rw [hy] at HS2 ⊢
    by_cases h3 : okN sa s = true ∧ okN sa t = true
    · obtain ⟨ho1, ho2⟩ := h3
      have hx1 : sealX sa s data 4 = (0, sealS sa s data 4) := by unfold sealX; rw [if_pos ho1]
      have hx2 : sealX sa t data 4 = (0, sealS sa t data 4) := by unfold sealX; rw [if_pos ho2]
      rw [hx1] at HS1
      rw [hx2] at HS2
      have hi := seal_inj sa s t data 4 hs ht
      have hv := be8_inj s t hs ht
      rw [← seal_iv sa s data 4, ← seal_iv sa t data 4] at hv
      have hf : (sealS sa s data 4).take 4 = (sealS sa t data 4).take 4 := by rw [seal_first, seal_first]
      have hl1 := sealS_len sa s data 4
      have hl2 := sealS_len sa t data 4
      have hLS : lenS data.length = 32 + padLen data.length := rfl
      generalize sealS sa s data 4 = A at *
      generalize sealS sa t data 4 = B at *
      obtain ⟨L, hL⟩ : ∃ L, lenS data.length = L := ⟨_, rfl⟩
      rw [hL] at hl1 hl2 hLS
      have hL32 : 32 ≤ L := by omega
      have HV := Lib.hid (And.intro hi (And.intro hv hf))
      have hst : s = t ↔ z = y := by omega
      rw [hst] at HV
      simp only at HS1 HS2
      obtain ⟨spi, key, salt, mac, esn, window⟩ := sa
      unfold saC at hka hra HF HS1 HS2 ⊢
      simp only at hka hra HF HS1 HS2 ⊢
      have HKA := Lib.hid hka
      have HRA := Lib.hid hra
      have HLL := Lib.hid (And.intro hl1 hl2)
      clear hka hra hs hd hT hsz h2 hi hv hf hl1 hl2 hLS hL ho1 ho2 hx1 hx2 hz hy hst ht HC
      go_enter Tryd.func7, Tryd.ntmps7
      go_wp2_with fail
      refine (HF.out _).mono ?_
      rintro e w1 ⟨rfl, hk1⟩
      have HK1 := Lib.hid (HKA.out.trans hk1 (fun _ _ h => h))
      have HR1 := Lib.hid (HRA.out.keeps hk1 (fun h => h))
      clear hk1 HF
      have HSX := Lib.hid (HS1.out w1 _ (BRd.keeps HD.out HK1.out) (HT.out.keeps HK1.out))
      have d0 := (HR1.out).cell 0
      have d1 := (HR1.out).cell 1
      have d2 := (HR1.out).cell 2
      have d3 := (HR1.out).cell 3
      have d4 := (HR1.out).cell 4
      have d5 := (HR1.out).cell 5
      go_wp2_with fail
      refine HSX.out.mono ?_
      rintro e w2 ⟨v2, rfl, ho2, hk2⟩
      have HK2 := Lib.hid (HK1.out.trans hk2 (fun _ _ h => h))
      have HR2 := Lib.hid (HR1.out.keeps hk2 (fun h => h))
      have HB2 := Lib.hid (show BRd w2 _ A from ho2.bat.low)
      obtain ⟨g2, o2, c2, rfl, hc2, -, -⟩ := ho2.place (by rw [HLL.out.1]; omega)
      rw [HLL.out.1] at HB2 hc2 ⊢
      clear hk2 ho2 d0 d1 d2 d3 d4 d5 HS1 HSX HR1
      have HSX := Lib.hid (HS2.out w2 _ (BRd.keeps HD.out HK2.out) (HT.out.keeps HK2.out))
      have d0 := (HR2.out).cell 0
      have d1 := (HR2.out).cell 1
      have d2 := (HR2.out).cell 2
      have d3 := (HR2.out).cell 3
      have d4 := (HR2.out).cell 4
      have d5 := (HR2.out).cell 5
      go_wp2_with fail
      refine HSX.out.mono ?_
      rintro e w3 ⟨v3, rfl, ho3, hk3⟩
      have HK3 := Lib.hid (HK2.out.trans hk3 (fun _ _ h => h))
      have HA3 := Lib.hid (BRd.keeps HB2.out hk3)
      have HB3 := Lib.hid (show BRd w3 _ B from ho3.bat.low)
      obtain ⟨g3, o3, c3, rfl, hc3, -, -⟩ := ho3.place (by rw [HLL.out.2]; omega)
      rw [HLL.out.2] at HB3 hc3 ⊢
      clear hk3 ho3 d0 d1 d2 d3 d4 d5 HS2 HSX HR2 HB2 HK2
      go_wp2_with fail
      obtain ⟨e1, e2, e3⟩ := HV.out
      obtain ⟨hlA, hlB⟩ := HLL.out
      clear HV HLL
      refine region_T [0] (fun _ => True) (by kernel_rfl) ?_
      have hC : (fun _ : World => True) w3.drew := trivial
      refine anyT_force (i := 0) rfl (by kernel_rfl) (by rfl) ?_
      go_simp
      refine (HAW.out _ (HT.out.keeps HK3.out.drew)).mono ?_
      rintro e w5 ⟨rfl, hk5⟩
      have hk35 : Keeps (fun _ => False) w3 w5 := (Keeps.refl (fun _ => False) w3).drew.trans hk5 (fun _ _ h => h)
      have HK5 := Lib.hid (HK3.out.trans hk35 (fun _ _ h => h))
      have hA5 := BRd.keeps HA3.out hk35
      have hB5 := BRd.keeps HB3.out hk35
      have hcA : ¬ c2 = 8 := by omega
      have hcB : ¬ c3 = 8 := by omega
      have tA := hA5.text
      have tB := hB5.text
      have tA4 := (BAt.take8 hA5 4 (by omega)).text
      have tB4 := (BAt.take8 hB5 4 (by omega)).text
      have hA8 : BRd w5 (.slice (cutA (some ⟨g2, o2, none⟩) c2 8) (L - 8) (c2 - 8)) (A.drop 8) := BAt.cutG hA5 8 (by omega)
      have hB8 : BRd w5 (.slice (cutA (some ⟨g3, o3, none⟩) c3 8) (L - 8) (c3 - 8)) (B.drop 8) := BAt.cutG hB5 8 (by omega)
      rw [show cutA (some ⟨g2, o2, none⟩) c2 8 = some ⟨g2, o2 + 8, none⟩ by unfold cutA; rw [if_neg hcA, Option.map_some, addr_add]] at hA8
      rw [show cutA (some ⟨g3, o3, none⟩) c3 8 = some ⟨g3, o3 + 8, none⟩ by unfold cutA; rw [if_neg hcB, Option.map_some, addr_add]] at hB8
      have tA8 := (BAt.take8 hA8 8 (by rw [List.length_drop]; omega)).text
      have tB8 := (BAt.take8 hB8 8 (by rw [List.length_drop]; omega)).text
      rw [e3] at tA4
      generalize (A.drop 8).take 8 = I at *
      generalize (B.drop 8).take 8 = J at *
      generalize B.take 4 = F4 at *
      have q4a : (4 : Int) ≤ (c2 : Int) := by omega
      have q4b : (4 : Int) ≤ (c3 : Int) := by omega
      have q16a : (16 : Int) ≤ (c2 : Int) := by omega
      have q16b : (16 : Int) ≤ (c3 : Int) := by omega
      refine anyT_restart [] (fun x => x = w5) ⟨0, by rfl, by simp⟩ ?_
      try simp only [Act.put, List.getElem_toArray, List.getElem_cons_succ, List.getElem_cons_zero, List.setIfInBounds_toArray, List.set_cons_zero, List.set_cons_succ]
      clear hC hlA hlB hA8 hB8 hA5 hB5 hk35 hk5 HA3 HB3 HK3
      have hC : (fun x : World => x = w5) w5 := rfl
      by_cases hzy : z = y
      · have hAB := e1.2 hzy
        have hIJ := e2.2 hzy
        subst hzy hAB hIJ
        clear e1 e2 e3
        refine anyT_take0 (i := 1) (v := ?_) rfl (by kernel_rfl) (by kernel_rfl) (by kernel_rfl) (by kernel_rfl) (by kernel_rfl) (fun _ _ _ h => h) hC (.inl ⟨by rfl, fun _ _ => ?_⟩) ?_
        rotate_left 1
        · go_simp
          try with_reducible rfl
        simp only [Act.put, List.getElem_toArray, List.getElem_cons_succ, List.getElem_cons_zero, List.setIfInBounds_toArray, List.set_cons_zero, List.set_cons_succ]
        refine anyT_take0 (i := 2) (v := ?_) rfl (by kernel_rfl) (by kernel_rfl) (by kernel_rfl) (by kernel_rfl) (by kernel_rfl) (fun _ _ _ h => h) hC (.inl ⟨by rfl, fun _ _ => ?_⟩) ?_
        rotate_left 1
        · go_simp
          try with_reducible rfl
        simp only [Act.put, List.getElem_toArray, List.getElem_cons_succ, List.getElem_cons_zero, List.setIfInBounds_toArray, List.set_cons_zero, List.set_cons_succ]
        refine anyT_take0 (i := 3) (v := ?_) rfl (by kernel_rfl) (by kernel_rfl) (by kernel_rfl) (by kernel_rfl) (by kernel_rfl) (fun _ _ _ h => h) hC (.inl ⟨by rfl, fun _ _ => ?_⟩) ?_
        rotate_left 1
        · go_simp
          try with_reducible rfl
        simp only [Act.put, List.getElem_toArray, List.getElem_cons_succ, List.getElem_cons_zero, List.setIfInBounds_toArray, List.set_cons_zero, List.set_cons_succ]
        refine anyT_take0 (i := 4) (v := ?_) rfl (by kernel_rfl) (by kernel_rfl) (by kernel_rfl) (by kernel_rfl) (by kernel_rfl) (fun _ _ _ h => h) hC (.inl ⟨by rfl, fun _ _ => ?_⟩) ?_
        rotate_left 1
        · go_simp
          try with_reducible rfl
        simp only [Act.put, List.getElem_toArray, List.getElem_cons_succ, List.getElem_cons_zero, List.setIfInBounds_toArray, List.set_cons_zero, List.set_cons_succ]
        refine anyT_take0 (i := 5) (v := ?_) rfl (by kernel_rfl) (by kernel_rfl) (by kernel_rfl) (by kernel_rfl) (by kernel_rfl) (fun _ _ _ h => h) hC (.inl ⟨by rfl, fun _ _ => ?_⟩) ?_
        rotate_left 1
        · go_simp
          try with_reducible rfl
        simp only [Act.put, List.getElem_toArray, List.getElem_cons_succ, List.getElem_cons_zero, List.setIfInBounds_toArray, List.set_cons_zero, List.set_cons_succ]
        refine anyT_take0 (i := 6) (v := ?_) rfl (by kernel_rfl) (by kernel_rfl) (by kernel_rfl) (by kernel_rfl) (by kernel_rfl) (fun _ _ _ h => h) hC (.inl ⟨by rfl, fun _ _ => ?_⟩) ?_
        rotate_left 1
        · go_simp
          try with_reducible rfl
        simp only [Act.put, List.getElem_toArray, List.getElem_cons_succ, List.getElem_cons_zero, List.setIfInBounds_toArray, List.set_cons_zero, List.set_cons_succ]
        refine anyT_take0 (i := 7) (v := ?_) rfl (by kernel_rfl) (by kernel_rfl) (by kernel_rfl) (by kernel_rfl) (by kernel_rfl) (fun _ _ _ h => h) hC (.inl ⟨by rfl, fun _ _ => ?_⟩) ?_
        rotate_left 1
        · go_simp
          try with_reducible rfl
        simp only [Act.put, List.getElem_toArray, List.getElem_cons_succ, List.getElem_cons_zero, List.setIfInBounds_toArray, List.set_cons_zero, List.set_cons_succ]
        refine anyT_take0 (i := 8) (v := ?_) rfl (by kernel_rfl) (by kernel_rfl) (by kernel_rfl) (by kernel_rfl) (by kernel_rfl) (fun _ _ _ h => h) hC (.inl ⟨by rfl, fun _ _ => ?_⟩) ?_
        rotate_left 1
        · go_simp
          try with_reducible rfl
        simp only [Act.put, List.getElem_toArray, List.getElem_cons_succ, List.getElem_cons_zero, List.setIfInBounds_toArray, List.set_cons_zero, List.set_cons_succ]
        refine anyT_take0 (i := 9) (v := ?_) rfl (by kernel_rfl) (by kernel_rfl) (by kernel_rfl) (by kernel_rfl) (by kernel_rfl) (fun _ _ _ h => h) hC (.inl ⟨by rfl, fun _ _ => ?_⟩) ?_
        rotate_left 1
        · go_simp
          try with_reducible rfl
        simp only [Act.put, List.getElem_toArray, List.getElem_cons_succ, List.getElem_cons_zero, List.setIfInBounds_toArray, List.set_cons_zero, List.set_cons_succ]
        refine anyT_take0 (i := 10) (v := ?_) rfl (by kernel_rfl) (by kernel_rfl) (by kernel_rfl) (by kernel_rfl) (by kernel_rfl) (fun _ _ _ h => h) hC (.inl ⟨by rfl, fun _ _ => ?_⟩) ?_
        rotate_left 1
        · go_simp
          try with_reducible rfl
        simp only [Act.put, List.getElem_toArray, List.getElem_cons_succ, List.getElem_cons_zero, List.setIfInBounds_toArray, List.set_cons_zero, List.set_cons_succ]
        refine anyT_takeC (i := 11) (v := ?_) rfl (by kernel_rfl) (by kernel_rfl) (by kernel_rfl) (by kernel_rfl) (by kernel_rfl) (by kernel_rfl) (fun _ _ _ h => h) hC (.inl ⟨by rfl, fun w hCw => ?_⟩) ?_
        rotate_left 1
        · dsimp only at hCw
          subst hCw
          go_simp
          try with_reducible rfl
        try simp only [Act.put, List.getElem_toArray, List.getElem_cons_succ, List.getElem_cons_zero, List.setIfInBounds_toArray, List.set_cons_zero, List.set_cons_succ]
        refine anyT_take0 (i := 12) (v := ?_) rfl (by kernel_rfl) (by kernel_rfl) (by kernel_rfl) (by kernel_rfl) (by kernel_rfl) (fun _ _ _ h => h) hC (.inl ⟨by rfl, fun _ _ => ?_⟩) ?_
        rotate_left 1
        · go_simp
          try with_reducible rfl
        simp only [Act.put, List.getElem_toArray, List.getElem_cons_succ, List.getElem_cons_zero, List.setIfInBounds_toArray, List.set_cons_zero, List.set_cons_succ]
        refine anyT_take0 (i := 13) (v := ?_) rfl (by kernel_rfl) (by kernel_rfl) (by kernel_rfl) (by kernel_rfl) (by kernel_rfl) (fun _ _ _ h => h) hC (.inl ⟨by rfl, fun _ _ => ?_⟩) ?_
        rotate_left 1
        · go_simp
          try with_reducible rfl
        simp only [Act.put, List.getElem_toArray, List.getElem_cons_succ, List.getElem_cons_zero, List.setIfInBounds_toArray, List.set_cons_zero, List.set_cons_succ]
        refine anyT_takeC (i := 14) (v := ?_) rfl (by kernel_rfl) (by kernel_rfl) (by kernel_rfl) (by kernel_rfl) (by kernel_rfl) (by kernel_rfl) (fun _ _ _ h => h) hC (.inl ⟨by rfl, fun w hCw => ?_⟩) ?_
        rotate_left 1
        · dsimp only at hCw
          subst hCw
          go_simp
          try with_reducible rfl
        try simp only [Act.put, List.getElem_toArray, List.getElem_cons_succ, List.getElem_cons_zero, List.setIfInBounds_toArray, List.set_cons_zero, List.set_cons_succ]
        refine anyT_take0 (i := 15) (v := ?_) rfl (by kernel_rfl) (by kernel_rfl) (by kernel_rfl) (by kernel_rfl) (by kernel_rfl) (fun _ _ _ h => h) hC (.inl ⟨by rfl, fun _ _ => ?_⟩) ?_
        rotate_left 1
        · go_simp
          try with_reducible rfl
        simp only [Act.put, List.getElem_toArray, List.getElem_cons_succ, List.getElem_cons_zero, List.setIfInBounds_toArray, List.set_cons_zero, List.set_cons_succ]
        refine anyT_take0 (i := 16) (v := ?_) rfl (by kernel_rfl) (by kernel_rfl) (by kernel_rfl) (by kernel_rfl) (by kernel_rfl) (fun _ _ _ h => h) hC (.inl ⟨by rfl, fun _ _ => ?_⟩) ?_
        rotate_left 1
        · go_simp
          try with_reducible rfl
        simp only [Act.put, List.getElem_toArray, List.getElem_cons_succ, List.getElem_cons_zero, List.setIfInBounds_toArray, List.set_cons_zero, List.set_cons_succ]
        refine anyT_take0 (i := 17) (v := ?_) rfl (by kernel_rfl) (by kernel_rfl) (by kernel_rfl) (by kernel_rfl) (by kernel_rfl) (fun _ _ _ h => h) hC (.inl ⟨by rfl, fun _ _ => ?_⟩) ?_
        rotate_left 1
        · go_simp
          try with_reducible rfl
        simp only [Act.put, List.getElem_toArray, List.getElem_cons_succ, List.getElem_cons_zero, List.setIfInBounds_toArray, List.set_cons_zero, List.set_cons_succ]
        refine anyT_take0 (i := 18) (v := ?_) rfl (by kernel_rfl) (by kernel_rfl) (by kernel_rfl) (by kernel_rfl) (by kernel_rfl) (fun _ _ _ h => h) hC (.inl ⟨by rfl, fun _ _ => ?_⟩) ?_
        rotate_left 1
        · go_simp
          try with_reducible rfl
        simp only [Act.put, List.getElem_toArray, List.getElem_cons_succ, List.getElem_cons_zero, List.setIfInBounds_toArray, List.set_cons_zero, List.set_cons_succ]
        refine anyT_take0 (i := 19) (v := ?_) rfl (by kernel_rfl) (by kernel_rfl) (by kernel_rfl) (by kernel_rfl) (by kernel_rfl) (fun _ _ _ h => h) hC (.inl ⟨by rfl, fun _ _ => ?_⟩) ?_
        rotate_left 1
        · go_simp
          try with_reducible rfl
        simp only [Act.put, List.getElem_toArray, List.getElem_cons_succ, List.getElem_cons_zero, List.setIfInBounds_toArray, List.set_cons_zero, List.set_cons_succ]
        refine anyT_takeC (i := 20) (v := ?_) rfl (by kernel_rfl) (by kernel_rfl) (by kernel_rfl) (by kernel_rfl) (by kernel_rfl) (by kernel_rfl) (fun _ _ _ h => h) hC (.inl ⟨by rfl, fun w hCw => ?_⟩) ?_
        rotate_left 1
        · dsimp only at hCw
          subst hCw
          go_simp
          try with_reducible rfl
        try simp only [Act.put, List.getElem_toArray, List.getElem_cons_succ, List.getElem_cons_zero, List.setIfInBounds_toArray, List.set_cons_zero, List.set_cons_succ]
        refine anyT_take0 (i := 21) (v := ?_) rfl (by kernel_rfl) (by kernel_rfl) (by kernel_rfl) (by kernel_rfl) (by kernel_rfl) (fun _ _ _ h => h) hC (.inl ⟨by rfl, fun _ _ => ?_⟩) ?_
        rotate_left 1
        · go_simp
          try with_reducible rfl
        simp only [Act.put, List.getElem_toArray, List.getElem_cons_succ, List.getElem_cons_zero, List.setIfInBounds_toArray, List.set_cons_zero, List.set_cons_succ]
        refine anyT_take0 (i := 22) (v := ?_) rfl (by kernel_rfl) (by kernel_rfl) (by kernel_rfl) (by kernel_rfl) (by kernel_rfl) (fun _ _ _ h => h) hC (.inl ⟨by rfl, fun _ _ => ?_⟩) ?_
        rotate_left 1
        · go_simp
          try with_reducible rfl
        simp only [Act.put, List.getElem_toArray, List.getElem_cons_succ, List.getElem_cons_zero, List.setIfInBounds_toArray, List.set_cons_zero, List.set_cons_succ]
        refine anyT_takeC (i := 23) (v := ?_) rfl (by kernel_rfl) (by kernel_rfl) (by kernel_rfl) (by kernel_rfl) (by kernel_rfl) (by kernel_rfl) (fun _ _ _ h => h) hC (.inl ⟨by rfl, fun w hCw => ?_⟩) ?_
        rotate_left 1
        · dsimp only at hCw
          subst hCw
          go_simp
          try with_reducible rfl
        try simp only [Act.put, List.getElem_toArray, List.getElem_cons_succ, List.getElem_cons_zero, List.setIfInBounds_toArray, List.set_cons_zero, List.set_cons_succ]
        refine anyT_take0 (i := 24) (v := ?_) rfl (by kernel_rfl) (by kernel_rfl) (by kernel_rfl) (by kernel_rfl) (by kernel_rfl) (fun _ _ _ h => h) hC (.inl ⟨by rfl, fun _ _ => ?_⟩) ?_
        rotate_left 1
        · go_simp
          try with_reducible rfl
        simp only [Act.put, List.getElem_toArray, List.getElem_cons_succ, List.getElem_cons_zero, List.setIfInBounds_toArray, List.set_cons_zero, List.set_cons_succ]
        refine anyT_take0 (i := 25) (v := ?_) rfl (by kernel_rfl) (by kernel_rfl) (by kernel_rfl) (by kernel_rfl) (by kernel_rfl) (fun _ _ _ h => h) hC (.inl ⟨by rfl, fun _ _ => ?_⟩) ?_
        rotate_left 1
        · go_simp
          try with_reducible rfl
        simp only [Act.put, List.getElem_toArray, List.getElem_cons_succ, List.getElem_cons_zero, List.setIfInBounds_toArray, List.set_cons_zero, List.set_cons_succ]
        refine anyT_take0 (i := 26) (v := ?_) rfl (by kernel_rfl) (by kernel_rfl) (by kernel_rfl) (by kernel_rfl) (by kernel_rfl) (fun _ _ _ h => h) hC (.inl ⟨by rfl, fun _ _ => ?_⟩) ?_
        rotate_left 1
        · go_simp
          try with_reducible rfl
        simp only [Act.put, List.getElem_toArray, List.getElem_cons_succ, List.getElem_cons_zero, List.setIfInBounds_toArray, List.set_cons_zero, List.set_cons_succ]
        refine anyT_take0 (i := 27) (v := ?_) rfl (by kernel_rfl) (by kernel_rfl) (by kernel_rfl) (by kernel_rfl) (by kernel_rfl) (fun _ _ _ h => h) hC (.inl ⟨by rfl, fun _ _ => ?_⟩) ?_
        rotate_left 1
        · go_simp
          try with_reducible rfl
        simp only [Act.put, List.getElem_toArray, List.getElem_cons_succ, List.getElem_cons_zero, List.setIfInBounds_toArray, List.set_cons_zero, List.set_cons_succ]
        refine anyT_take0 (i := 28) (v := ?_) rfl (by kernel_rfl) (by kernel_rfl) (by kernel_rfl) (by kernel_rfl) (by kernel_rfl) (fun _ _ _ h => h) hC (.inl ⟨by rfl, fun _ _ => ?_⟩) ?_
        rotate_left 1
        · go_simp
          try with_reducible rfl
        simp only [Act.put, List.getElem_toArray, List.getElem_cons_succ, List.getElem_cons_zero, List.setIfInBounds_toArray, List.set_cons_zero, List.set_cons_succ]
        refine anyT_take0 (i := 29) (v := ?_) rfl (by kernel_rfl) (by kernel_rfl) (by kernel_rfl) (by kernel_rfl) (by kernel_rfl) (fun _ _ _ h => h) hC (.inl ⟨by rfl, fun _ _ => ?_⟩) ?_
        rotate_left 1
        · go_simp
          try with_reducible rfl
        simp only [Act.put, List.getElem_toArray, List.getElem_cons_succ, List.getElem_cons_zero, List.setIfInBounds_toArray, List.set_cons_zero, List.set_cons_succ]
        refine anyT_take0 (i := 30) (v := ?_) rfl (by kernel_rfl) (by kernel_rfl) (by kernel_rfl) (by kernel_rfl) (by kernel_rfl) (fun _ _ _ h => h) hC (.inl ⟨by rfl, fun _ _ => ?_⟩) ?_
        rotate_left 1
        · go_simp
          try with_reducible rfl
        simp only [Act.put, List.getElem_toArray, List.getElem_cons_succ, List.getElem_cons_zero, List.setIfInBounds_toArray, List.set_cons_zero, List.set_cons_succ]
        refine anyT_take0 (i := 31) (v := ?_) rfl (by kernel_rfl) (by kernel_rfl) (by kernel_rfl) (by kernel_rfl) (by kernel_rfl) (fun _ _ _ h => h) hC (.inl ⟨by rfl, fun _ _ => ?_⟩) ?_
        rotate_left 1
        · go_simp
          try with_reducible rfl
        simp only [Act.put, List.getElem_toArray, List.getElem_cons_succ, List.getElem_cons_zero, List.setIfInBounds_toArray, List.set_cons_zero, List.set_cons_succ]
        refine anyT_takeC (i := 32) (v := ?_) rfl (by kernel_rfl) (by kernel_rfl) (by kernel_rfl) (by kernel_rfl) (by kernel_rfl) (by kernel_rfl) (fun _ _ _ h => h) hC (.inl ⟨by rfl, fun w hCw => ?_⟩) ?_
        rotate_left 1
        · dsimp only at hCw
          subst hCw
          go_simp
          try with_reducible rfl
        try simp only [Act.put, List.getElem_toArray, List.getElem_cons_succ, List.getElem_cons_zero, List.setIfInBounds_toArray, List.set_cons_zero, List.set_cons_succ]
        refine anyT_take0 (i := 33) (v := ?_) rfl (by kernel_rfl) (by kernel_rfl) (by kernel_rfl) (by kernel_rfl) (by kernel_rfl) (fun _ _ _ h => h) hC (.inl ⟨by rfl, fun _ _ => ?_⟩) ?_
        rotate_left 1
        · go_simp
          try with_reducible rfl
        simp only [Act.put, List.getElem_toArray, List.getElem_cons_succ, List.getElem_cons_zero, List.setIfInBounds_toArray, List.set_cons_zero, List.set_cons_succ]
        refine anyT_takeC (i := 34) (v := ?_) rfl (by kernel_rfl) (by kernel_rfl) (by kernel_rfl) (by kernel_rfl) (by kernel_rfl) (by kernel_rfl) (fun _ _ _ h => h) hC (.inl ⟨by rfl, fun w hCw => ?_⟩) ?_
        rotate_left 1
        · dsimp only at hCw
          subst hCw
          go_simp
          try with_reducible rfl
        try simp only [Act.put, List.getElem_toArray, List.getElem_cons_succ, List.getElem_cons_zero, List.setIfInBounds_toArray, List.set_cons_zero, List.set_cons_succ]
        refine anyT_take0 (i := 35) (v := ?_) rfl (by kernel_rfl) (by kernel_rfl) (by kernel_rfl) (by kernel_rfl) (by kernel_rfl) (fun _ _ _ h => h) hC (.inl ⟨by rfl, fun _ _ => ?_⟩) ?_
        rotate_left 1
        · go_simp
          try with_reducible rfl
        simp only [Act.put, List.getElem_toArray, List.getElem_cons_succ, List.getElem_cons_zero, List.setIfInBounds_toArray, List.set_cons_zero, List.set_cons_succ]
        refine anyT_take0 (i := 36) (v := ?_) rfl (by kernel_rfl) (by kernel_rfl) (by kernel_rfl) (by kernel_rfl) (by kernel_rfl) (fun _ _ _ h => h) hC (.inl ⟨by rfl, fun _ _ => ?_⟩) ?_
        rotate_left 1
        · go_simp
          try with_reducible rfl
        simp only [Act.put, List.getElem_toArray, List.getElem_cons_succ, List.getElem_cons_zero, List.setIfInBounds_toArray, List.set_cons_zero, List.set_cons_succ]
        refine anyT_take0 (i := 37) (v := ?_) rfl (by kernel_rfl) (by kernel_rfl) (by kernel_rfl) (by kernel_rfl) (by kernel_rfl) (fun _ _ _ h => h) hC (.inl ⟨by rfl, fun _ _ => ?_⟩) ?_
        rotate_left 1
        · go_simp
          try with_reducible rfl
        simp only [Act.put, List.getElem_toArray, List.getElem_cons_succ, List.getElem_cons_zero, List.setIfInBounds_toArray, List.set_cons_zero, List.set_cons_succ]
        refine anyT_take0 (i := 38) (v := ?_) rfl (by kernel_rfl) (by kernel_rfl) (by kernel_rfl) (by kernel_rfl) (by kernel_rfl) (fun _ _ _ h => h) hC (.inl ⟨by rfl, fun _ _ => ?_⟩) ?_
        rotate_left 1
        · go_simp
          try with_reducible rfl
        simp only [Act.put, List.getElem_toArray, List.getElem_cons_succ, List.getElem_cons_zero, List.setIfInBounds_toArray, List.set_cons_zero, List.set_cons_succ]
        refine anyT_take0 (i := 39) (v := ?_) rfl (by kernel_rfl) (by kernel_rfl) (by kernel_rfl) (by kernel_rfl) (by kernel_rfl) (fun _ _ _ h => h) hC (.inl ⟨by rfl, fun _ _ => ?_⟩) ?_
        rotate_left 1
        · go_simp
          try with_reducible rfl
        simp only [Act.put, List.getElem_toArray, List.getElem_cons_succ, List.getElem_cons_zero, List.setIfInBounds_toArray, List.set_cons_zero, List.set_cons_succ]
        refine anyT_take0 (i := 40) (v := ?_) rfl (by kernel_rfl) (by kernel_rfl) (by kernel_rfl) (by kernel_rfl) (by kernel_rfl) (fun _ _ _ h => h) hC (.inl ⟨by rfl, fun _ _ => ?_⟩) ?_
        rotate_left 1
        · go_simp
          try with_reducible rfl
        simp only [Act.put, List.getElem_toArray, List.getElem_cons_succ, List.getElem_cons_zero, List.setIfInBounds_toArray, List.set_cons_zero, List.set_cons_succ]
        refine anyT_take0 (i := 41) (v := ?_) rfl (by kernel_rfl) (by kernel_rfl) (by kernel_rfl) (by kernel_rfl) (by kernel_rfl) (fun _ _ _ h => h) hC (.inl ⟨by rfl, fun _ _ => ?_⟩) ?_
        rotate_left 1
        · go_simp
          try with_reducible rfl
        simp only [Act.put, List.getElem_toArray, List.getElem_cons_succ, List.getElem_cons_zero, List.setIfInBounds_toArray, List.set_cons_zero, List.set_cons_succ]
        refine (show anyT _ _ _ _ _ _ 0 _ _ _ from ⟨by kernel_rfl, ?_⟩)
        go_wp2
        go_ret
        exact ⟨rfl, HK5.out⟩
      · have hAB : ¬ A = B := fun h => hzy (e1.1 h)
        have hIJ : ¬ I = J := fun h => hzy (e2.1 h)
        have x1 : (A == B) = false := beq_eq_false_iff_ne.2 hAB
        have x2 : (I == J) = false := beq_eq_false_iff_ne.2 hIJ
        have x3 : (z == y) = false := beq_eq_false_iff_ne.2 hzy
        have x4 : decide (z = y) = false := decide_eq_false hzy
        clear e1 e2 e3
        refine anyT_take0 (i := 1) (v := ?_) rfl (by kernel_rfl) (by kernel_rfl) (by kernel_rfl) (by kernel_rfl) (by kernel_rfl) (fun _ _ _ h => h) hC (.inl ⟨by rfl, fun _ _ => ?_⟩) ?_
        rotate_left 1
        · go_simp
          try with_reducible rfl
        simp only [Act.put, List.getElem_toArray, List.getElem_cons_succ, List.getElem_cons_zero, List.setIfInBounds_toArray, List.set_cons_zero, List.set_cons_succ]
        refine anyT_take0 (i := 2) (v := ?_) rfl (by kernel_rfl) (by kernel_rfl) (by kernel_rfl) (by kernel_rfl) (by kernel_rfl) (fun _ _ _ h => h) hC (.inl ⟨by rfl, fun _ _ => ?_⟩) ?_
        rotate_left 1
        · go_simp
          try with_reducible rfl
        simp only [Act.put, List.getElem_toArray, List.getElem_cons_succ, List.getElem_cons_zero, List.setIfInBounds_toArray, List.set_cons_zero, List.set_cons_succ]
        refine anyT_take0 (i := 3) (v := ?_) rfl (by kernel_rfl) (by kernel_rfl) (by kernel_rfl) (by kernel_rfl) (by kernel_rfl) (fun _ _ _ h => h) hC (.inl ⟨by rfl, fun _ _ => ?_⟩) ?_
        rotate_left 1
        · go_simp
          try with_reducible rfl
        simp only [Act.put, List.getElem_toArray, List.getElem_cons_succ, List.getElem_cons_zero, List.setIfInBounds_toArray, List.set_cons_zero, List.set_cons_succ]
        refine anyT_take0 (i := 4) (v := ?_) rfl (by kernel_rfl) (by kernel_rfl) (by kernel_rfl) (by kernel_rfl) (by kernel_rfl) (fun _ _ _ h => h) hC (.inl ⟨by rfl, fun _ _ => ?_⟩) ?_
        rotate_left 1
        · go_simp
          try with_reducible rfl
        simp only [Act.put, List.getElem_toArray, List.getElem_cons_succ, List.getElem_cons_zero, List.setIfInBounds_toArray, List.set_cons_zero, List.set_cons_succ]
        refine anyT_take0 (i := 5) (v := ?_) rfl (by kernel_rfl) (by kernel_rfl) (by kernel_rfl) (by kernel_rfl) (by kernel_rfl) (fun _ _ _ h => h) hC (.inl ⟨by rfl, fun _ _ => ?_⟩) ?_
        rotate_left 1
        · go_simp
          try with_reducible rfl
        simp only [Act.put, List.getElem_toArray, List.getElem_cons_succ, List.getElem_cons_zero, List.setIfInBounds_toArray, List.set_cons_zero, List.set_cons_succ]
        refine anyT_take0 (i := 6) (v := ?_) rfl (by kernel_rfl) (by kernel_rfl) (by kernel_rfl) (by kernel_rfl) (by kernel_rfl) (fun _ _ _ h => h) hC (.inl ⟨by rfl, fun _ _ => ?_⟩) ?_
        rotate_left 1
        · go_simp
          try with_reducible rfl
        simp only [Act.put, List.getElem_toArray, List.getElem_cons_succ, List.getElem_cons_zero, List.setIfInBounds_toArray, List.set_cons_zero, List.set_cons_succ]
        refine anyT_take0 (i := 7) (v := ?_) rfl (by kernel_rfl) (by kernel_rfl) (by kernel_rfl) (by kernel_rfl) (by kernel_rfl) (fun _ _ _ h => h) hC (.inl ⟨by rfl, fun _ _ => ?_⟩) ?_
        rotate_left 1
        · go_simp
          try with_reducible rfl
        simp only [Act.put, List.getElem_toArray, List.getElem_cons_succ, List.getElem_cons_zero, List.setIfInBounds_toArray, List.set_cons_zero, List.set_cons_succ]
        refine anyT_take0 (i := 8) (v := ?_) rfl (by kernel_rfl) (by kernel_rfl) (by kernel_rfl) (by kernel_rfl) (by kernel_rfl) (fun _ _ _ h => h) hC (.inl ⟨by rfl, fun _ _ => ?_⟩) ?_
        rotate_left 1
        · go_simp
          try with_reducible rfl
        simp only [Act.put, List.getElem_toArray, List.getElem_cons_succ, List.getElem_cons_zero, List.setIfInBounds_toArray, List.set_cons_zero, List.set_cons_succ]
        refine anyT_take0 (i := 9) (v := ?_) rfl (by kernel_rfl) (by kernel_rfl) (by kernel_rfl) (by kernel_rfl) (by kernel_rfl) (fun _ _ _ h => h) hC (.inl ⟨by rfl, fun _ _ => ?_⟩) ?_
        rotate_left 1
        · go_simp
          try with_reducible rfl
        simp only [Act.put, List.getElem_toArray, List.getElem_cons_succ, List.getElem_cons_zero, List.setIfInBounds_toArray, List.set_cons_zero, List.set_cons_succ]
        refine anyT_take0 (i := 10) (v := ?_) rfl (by kernel_rfl) (by kernel_rfl) (by kernel_rfl) (by kernel_rfl) (by kernel_rfl) (fun _ _ _ h => h) hC (.inl ⟨by rfl, fun _ _ => ?_⟩) ?_
        rotate_left 1
        · go_simp
          try with_reducible rfl
        simp only [Act.put, List.getElem_toArray, List.getElem_cons_succ, List.getElem_cons_zero, List.setIfInBounds_toArray, List.set_cons_zero, List.set_cons_succ]
        refine anyT_takeC (i := 11) (v := ?_) rfl (by kernel_rfl) (by kernel_rfl) (by kernel_rfl) (by kernel_rfl) (by kernel_rfl) (by kernel_rfl) (fun _ _ _ h => h) hC (.inl ⟨by rfl, fun w hCw => ?_⟩) ?_
        rotate_left 1
        · dsimp only at hCw
          subst hCw
          go_simp
          try with_reducible rfl
        try simp only [Act.put, List.getElem_toArray, List.getElem_cons_succ, List.getElem_cons_zero, List.setIfInBounds_toArray, List.set_cons_zero, List.set_cons_succ]
        refine anyT_take0 (i := 12) (v := ?_) rfl (by kernel_rfl) (by kernel_rfl) (by kernel_rfl) (by kernel_rfl) (by kernel_rfl) (fun _ _ _ h => h) hC (.inl ⟨by rfl, fun _ _ => ?_⟩) ?_
        rotate_left 1
        · go_simp
          try with_reducible rfl
        simp only [Act.put, List.getElem_toArray, List.getElem_cons_succ, List.getElem_cons_zero, List.setIfInBounds_toArray, List.set_cons_zero, List.set_cons_succ]
        refine anyT_take0 (i := 13) (v := ?_) rfl (by kernel_rfl) (by kernel_rfl) (by kernel_rfl) (by kernel_rfl) (by kernel_rfl) (fun _ _ _ h => h) hC (.inl ⟨by rfl, fun _ _ => ?_⟩) ?_
        rotate_left 1
        · go_simp
          try with_reducible rfl
        simp only [Act.put, List.getElem_toArray, List.getElem_cons_succ, List.getElem_cons_zero, List.setIfInBounds_toArray, List.set_cons_zero, List.set_cons_succ]
        refine anyT_takeC (i := 14) (v := ?_) rfl (by kernel_rfl) (by kernel_rfl) (by kernel_rfl) (by kernel_rfl) (by kernel_rfl) (by kernel_rfl) (fun _ _ _ h => h) hC (.inl ⟨by rfl, fun w hCw => ?_⟩) ?_
        rotate_left 1
        · dsimp only at hCw
          subst hCw
          go_simp
          try with_reducible rfl
        try simp only [Act.put, List.getElem_toArray, List.getElem_cons_succ, List.getElem_cons_zero, List.setIfInBounds_toArray, List.set_cons_zero, List.set_cons_succ]
        refine anyT_take0 (i := 15) (v := ?_) rfl (by kernel_rfl) (by kernel_rfl) (by kernel_rfl) (by kernel_rfl) (by kernel_rfl) (fun _ _ _ h => h) hC (.inl ⟨by rfl, fun _ _ => ?_⟩) ?_
        rotate_left 1
        · go_simp
          try with_reducible rfl
        simp only [Act.put, List.getElem_toArray, List.getElem_cons_succ, List.getElem_cons_zero, List.setIfInBounds_toArray, List.set_cons_zero, List.set_cons_succ]
        refine anyT_take0 (i := 16) (v := ?_) rfl (by kernel_rfl) (by kernel_rfl) (by kernel_rfl) (by kernel_rfl) (by kernel_rfl) (fun _ _ _ h => h) hC (.inl ⟨by rfl, fun _ _ => ?_⟩) ?_
        rotate_left 1
        · go_simp
          try with_reducible rfl
        simp only [Act.put, List.getElem_toArray, List.getElem_cons_succ, List.getElem_cons_zero, List.setIfInBounds_toArray, List.set_cons_zero, List.set_cons_succ]
        refine anyT_take0 (i := 17) (v := ?_) rfl (by kernel_rfl) (by kernel_rfl) (by kernel_rfl) (by kernel_rfl) (by kernel_rfl) (fun _ _ _ h => h) hC (.inl ⟨by rfl, fun _ _ => ?_⟩) ?_
        rotate_left 1
        · go_simp
          try with_reducible rfl
        simp only [Act.put, List.getElem_toArray, List.getElem_cons_succ, List.getElem_cons_zero, List.setIfInBounds_toArray, List.set_cons_zero, List.set_cons_succ]
        refine anyT_take0 (i := 18) (v := ?_) rfl (by kernel_rfl) (by kernel_rfl) (by kernel_rfl) (by kernel_rfl) (by kernel_rfl) (fun _ _ _ h => h) hC (.inl ⟨by rfl, fun _ _ => ?_⟩) ?_
        rotate_left 1
        · go_simp
          try with_reducible rfl
        simp only [Act.put, List.getElem_toArray, List.getElem_cons_succ, List.getElem_cons_zero, List.setIfInBounds_toArray, List.set_cons_zero, List.set_cons_succ]
        refine anyT_take0 (i := 19) (v := ?_) rfl (by kernel_rfl) (by kernel_rfl) (by kernel_rfl) (by kernel_rfl) (by kernel_rfl) (fun _ _ _ h => h) hC (.inl ⟨by rfl, fun _ _ => ?_⟩) ?_
        rotate_left 1
        · go_simp
          try with_reducible rfl
        simp only [Act.put, List.getElem_toArray, List.getElem_cons_succ, List.getElem_cons_zero, List.setIfInBounds_toArray, List.set_cons_zero, List.set_cons_succ]
        refine anyT_takeC (i := 20) (v := ?_) rfl (by kernel_rfl) (by kernel_rfl) (by kernel_rfl) (by kernel_rfl) (by kernel_rfl) (by kernel_rfl) (fun _ _ _ h => h) hC (.inl ⟨by rfl, fun w hCw => ?_⟩) ?_
        rotate_left 1
        · dsimp only at hCw
          subst hCw
          go_simp
          try with_reducible rfl
        try simp only [Act.put, List.getElem_toArray, List.getElem_cons_succ, List.getElem_cons_zero, List.setIfInBounds_toArray, List.set_cons_zero, List.set_cons_succ]
        refine anyT_take0 (i := 21) (v := ?_) rfl (by kernel_rfl) (by kernel_rfl) (by kernel_rfl) (by kernel_rfl) (by kernel_rfl) (fun _ _ _ h => h) hC (.inl ⟨by rfl, fun _ _ => ?_⟩) ?_
        rotate_left 1
        · go_simp
          try with_reducible rfl
        simp only [Act.put, List.getElem_toArray, List.getElem_cons_succ, List.getElem_cons_zero, List.setIfInBounds_toArray, List.set_cons_zero, List.set_cons_succ]
        refine anyT_take0 (i := 22) (v := ?_) rfl (by kernel_rfl) (by kernel_rfl) (by kernel_rfl) (by kernel_rfl) (by kernel_rfl) (fun _ _ _ h => h) hC (.inl ⟨by rfl, fun _ _ => ?_⟩) ?_
        rotate_left 1
        · go_simp
          try with_reducible rfl
        simp only [Act.put, List.getElem_toArray, List.getElem_cons_succ, List.getElem_cons_zero, List.setIfInBounds_toArray, List.set_cons_zero, List.set_cons_succ]
        refine anyT_takeC (i := 23) (v := ?_) rfl (by kernel_rfl) (by kernel_rfl) (by kernel_rfl) (by kernel_rfl) (by kernel_rfl) (by kernel_rfl) (fun _ _ _ h => h) hC (.inl ⟨by rfl, fun w hCw => ?_⟩) ?_
        rotate_left 1
        · dsimp only at hCw
          subst hCw
          go_simp
          try with_reducible rfl
        try simp only [Act.put, List.getElem_toArray, List.getElem_cons_succ, List.getElem_cons_zero, List.setIfInBounds_toArray, List.set_cons_zero, List.set_cons_succ]
        refine anyT_take0 (i := 24) (v := ?_) rfl (by kernel_rfl) (by kernel_rfl) (by kernel_rfl) (by kernel_rfl) (by kernel_rfl) (fun _ _ _ h => h) hC (.inl ⟨by rfl, fun _ _ => ?_⟩) ?_
        rotate_left 1
        · go_simp
          try with_reducible rfl
        simp only [Act.put, List.getElem_toArray, List.getElem_cons_succ, List.getElem_cons_zero, List.setIfInBounds_toArray, List.set_cons_zero, List.set_cons_succ]
        refine anyT_take0 (i := 25) (v := ?_) rfl (by kernel_rfl) (by kernel_rfl) (by kernel_rfl) (by kernel_rfl) (by kernel_rfl) (fun _ _ _ h => h) hC (.inl ⟨by rfl, fun _ _ => ?_⟩) ?_
        rotate_left 1
        · go_simp
          try with_reducible rfl
        simp only [Act.put, List.getElem_toArray, List.getElem_cons_succ, List.getElem_cons_zero, List.setIfInBounds_toArray, List.set_cons_zero, List.set_cons_succ]
        refine anyT_take0 (i := 26) (v := ?_) rfl (by kernel_rfl) (by kernel_rfl) (by kernel_rfl) (by kernel_rfl) (by kernel_rfl) (fun _ _ _ h => h) hC (.inl ⟨by rfl, fun _ _ => ?_⟩) ?_
        rotate_left 1
        · go_simp
          try with_reducible rfl
        simp only [Act.put, List.getElem_toArray, List.getElem_cons_succ, List.getElem_cons_zero, List.setIfInBounds_toArray, List.set_cons_zero, List.set_cons_succ]
        refine anyT_take0 (i := 27) (v := ?_) rfl (by kernel_rfl) (by kernel_rfl) (by kernel_rfl) (by kernel_rfl) (by kernel_rfl) (fun _ _ _ h => h) hC (.inl ⟨by rfl, fun _ _ => ?_⟩) ?_
        rotate_left 1
        · go_simp
          try with_reducible rfl
        simp only [Act.put, List.getElem_toArray, List.getElem_cons_succ, List.getElem_cons_zero, List.setIfInBounds_toArray, List.set_cons_zero, List.set_cons_succ]
        refine anyT_take0 (i := 28) (v := ?_) rfl (by kernel_rfl) (by kernel_rfl) (by kernel_rfl) (by kernel_rfl) (by kernel_rfl) (fun _ _ _ h => h) hC (.inl ⟨by rfl, fun _ _ => ?_⟩) ?_
        rotate_left 1
        · go_simp
          try with_reducible rfl
        simp only [Act.put, List.getElem_toArray, List.getElem_cons_succ, List.getElem_cons_zero, List.setIfInBounds_toArray, List.set_cons_zero, List.set_cons_succ]
        refine anyT_take0 (i := 29) (v := ?_) rfl (by kernel_rfl) (by kernel_rfl) (by kernel_rfl) (by kernel_rfl) (by kernel_rfl) (fun _ _ _ h => h) hC (.inl ⟨by rfl, fun _ _ => ?_⟩) ?_
        rotate_left 1
        · go_simp
          try with_reducible rfl
        simp only [Act.put, List.getElem_toArray, List.getElem_cons_succ, List.getElem_cons_zero, List.setIfInBounds_toArray, List.set_cons_zero, List.set_cons_succ]
        refine anyT_take0 (i := 30) (v := ?_) rfl (by kernel_rfl) (by kernel_rfl) (by kernel_rfl) (by kernel_rfl) (by kernel_rfl) (fun _ _ _ h => h) hC (.inl ⟨by rfl, fun _ _ => ?_⟩) ?_
        rotate_left 1
        · go_simp
          try with_reducible rfl
        simp only [Act.put, List.getElem_toArray, List.getElem_cons_succ, List.getElem_cons_zero, List.setIfInBounds_toArray, List.set_cons_zero, List.set_cons_succ]
        refine anyT_take0 (i := 31) (v := ?_) rfl (by kernel_rfl) (by kernel_rfl) (by kernel_rfl) (by kernel_rfl) (by kernel_rfl) (fun _ _ _ h => h) hC (.inl ⟨by rfl, fun _ _ => ?_⟩) ?_
        rotate_left 1
        · go_simp
          try with_reducible rfl
        simp only [Act.put, List.getElem_toArray, List.getElem_cons_succ, List.getElem_cons_zero, List.setIfInBounds_toArray, List.set_cons_zero, List.set_cons_succ]
        refine anyT_takeC (i := 32) (v := ?_) rfl (by kernel_rfl) (by kernel_rfl) (by kernel_rfl) (by kernel_rfl) (by kernel_rfl) (by kernel_rfl) (fun _ _ _ h => h) hC (.inl ⟨by rfl, fun w hCw => ?_⟩) ?_
        rotate_left 1
        · dsimp only at hCw
          subst hCw
          go_simp
          try with_reducible rfl
        try simp only [Act.put, List.getElem_toArray, List.getElem_cons_succ, List.getElem_cons_zero, List.setIfInBounds_toArray, List.set_cons_zero, List.set_cons_succ]
        refine anyT_take0 (i := 33) (v := ?_) rfl (by kernel_rfl) (by kernel_rfl) (by kernel_rfl) (by kernel_rfl) (by kernel_rfl) (fun _ _ _ h => h) hC (.inl ⟨by rfl, fun _ _ => ?_⟩) ?_
        rotate_left 1
        · go_simp
          try with_reducible rfl
        simp only [Act.put, List.getElem_toArray, List.getElem_cons_succ, List.getElem_cons_zero, List.setIfInBounds_toArray, List.set_cons_zero, List.set_cons_succ]
        refine anyT_takeC (i := 34) (v := ?_) rfl (by kernel_rfl) (by kernel_rfl) (by kernel_rfl) (by kernel_rfl) (by kernel_rfl) (by kernel_rfl) (fun _ _ _ h => h) hC (.inl ⟨by rfl, fun w hCw => ?_⟩) ?_
        rotate_left 1
        · dsimp only at hCw
          subst hCw
          go_simp
          try with_reducible rfl
        try simp only [Act.put, List.getElem_toArray, List.getElem_cons_succ, List.getElem_cons_zero, List.setIfInBounds_toArray, List.set_cons_zero, List.set_cons_succ]
        refine anyT_take0 (i := 35) (v := ?_) rfl (by kernel_rfl) (by kernel_rfl) (by kernel_rfl) (by kernel_rfl) (by kernel_rfl) (fun _ _ _ h => h) hC (.inl ⟨by rfl, fun _ _ => ?_⟩) ?_
        rotate_left 1
        · go_simp
          try with_reducible rfl
        simp only [Act.put, List.getElem_toArray, List.getElem_cons_succ, List.getElem_cons_zero, List.setIfInBounds_toArray, List.set_cons_zero, List.set_cons_succ]
        refine anyT_take0 (i := 36) (v := ?_) rfl (by kernel_rfl) (by kernel_rfl) (by kernel_rfl) (by kernel_rfl) (by kernel_rfl) (fun _ _ _ h => h) hC (.inl ⟨by rfl, fun _ _ => ?_⟩) ?_
        rotate_left 1
        · go_simp
          try with_reducible rfl
        simp only [Act.put, List.getElem_toArray, List.getElem_cons_succ, List.getElem_cons_zero, List.setIfInBounds_toArray, List.set_cons_zero, List.set_cons_succ]
        refine anyT_take0 (i := 37) (v := ?_) rfl (by kernel_rfl) (by kernel_rfl) (by kernel_rfl) (by kernel_rfl) (by kernel_rfl) (fun _ _ _ h => h) hC (.inl ⟨by rfl, fun _ _ => ?_⟩) ?_
        rotate_left 1
        · go_simp
          try with_reducible rfl
        simp only [Act.put, List.getElem_toArray, List.getElem_cons_succ, List.getElem_cons_zero, List.setIfInBounds_toArray, List.set_cons_zero, List.set_cons_succ]
        refine anyT_take0 (i := 38) (v := ?_) rfl (by kernel_rfl) (by kernel_rfl) (by kernel_rfl) (by kernel_rfl) (by kernel_rfl) (fun _ _ _ h => h) hC (.inl ⟨by rfl, fun _ _ => ?_⟩) ?_
        rotate_left 1
        · go_simp
          try with_reducible rfl
        simp only [Act.put, List.getElem_toArray, List.getElem_cons_succ, List.getElem_cons_zero, List.setIfInBounds_toArray, List.set_cons_zero, List.set_cons_succ]
        refine anyT_take0 (i := 39) (v := ?_) rfl (by kernel_rfl) (by kernel_rfl) (by kernel_rfl) (by kernel_rfl) (by kernel_rfl) (fun _ _ _ h => h) hC (.inl ⟨by rfl, fun _ _ => ?_⟩) ?_
        rotate_left 1
        · go_simp
          try with_reducible rfl
        simp only [Act.put, List.getElem_toArray, List.getElem_cons_succ, List.getElem_cons_zero, List.setIfInBounds_toArray, List.set_cons_zero, List.set_cons_succ]
        refine anyT_take0 (i := 40) (v := ?_) rfl (by kernel_rfl) (by kernel_rfl) (by kernel_rfl) (by kernel_rfl) (by kernel_rfl) (fun _ _ _ h => h) hC (.inl ⟨by rfl, fun _ _ => ?_⟩) ?_
        rotate_left 1
        · go_simp
          try with_reducible rfl
        simp only [Act.put, List.getElem_toArray, List.getElem_cons_succ, List.getElem_cons_zero, List.setIfInBounds_toArray, List.set_cons_zero, List.set_cons_succ]
        refine anyT_take0 (i := 41) (v := ?_) rfl (by kernel_rfl) (by kernel_rfl) (by kernel_rfl) (by kernel_rfl) (by kernel_rfl) (fun _ _ _ h => h) hC (.inl ⟨by rfl, fun _ _ => ?_⟩) ?_
        rotate_left 1
        · go_simp
          try with_reducible rfl
        simp only [Act.put, List.getElem_toArray, List.getElem_cons_succ, List.getElem_cons_zero, List.setIfInBounds_toArray, List.set_cons_zero, List.set_cons_succ]
        refine (show anyT _ _ _ _ _ _ 0 _ _ _ from ⟨by kernel_rfl, ?_⟩)
        go_wp2
        go_ret
        exact ⟨rfl, HK5.out⟩
    · have hN : mayS sa = false ∨ (mayS sa = true ∧ (z = 0 ∨ (z ≠ 0 ∧ (y = 0 ∨ (y ≠ 0 ∧ sa.esn = false ∧ (4294967295 < z ∨ (z ≤ 4294967295 ∧ 4294967295 < y))))))) := by
        cases hm : mayS sa with
        | false => exact .inl rfl
        | true =>
          refine .inr ⟨rfl, ?_⟩
          by_cases hz1 : z = 0
          · exact .inl hz1
          · refine .inr ⟨hz1, ?_⟩
            by_cases hy1 : y = 0
            · exact .inl hy1
            · refine .inr ⟨hy1, ?_⟩
              have : okN sa s = false ∨ okN sa t = false := by
                cases h4 : okN sa s with
                | false => exact .inl rfl
                | true =>
                  cases h5 : okN sa t with
                  | false => exact .inr rfl
                  | true => exact absurd ⟨h4, h5⟩ h3
              rcases this with h4 | h4
              · obtain ⟨f1, f2⟩ := okN_false h4 hm (by omega)
                exact ⟨f1, .inl (by omega)⟩
              · obtain ⟨f1, f2⟩ := okN_false h4 hm (by omega)
                exact ⟨f1, by omega⟩
      have hE : ¬ ((sealX sa s data 4).1 = 0 ∧ (sealX sa t data 4).1 = 0) := by
        rintro ⟨f1, f2⟩
        unfold sealX at f1 f2
        refine h3 ⟨?_, ?_⟩
        · by_cases h4 : okN sa s = true
          · exact h4
          · rw [if_neg h4] at f1; exact absurd f1 (by decide)
        · by_cases h4 : okN sa t = true
          · exact h4
          · rw [if_neg h4] at f2; exact absurd f2 (by decide)
      generalize mayS sa = mb at *
      generalize sealX sa s data 4 = X1 at *
      generalize sealX sa t data 4 = X2 at *
      obtain ⟨E1, A⟩ := X1
      obtain ⟨E2, B⟩ := X2
      obtain ⟨spi, key, salt, mac, esn, window⟩ := sa
      unfold saC at hka hra HF HS1 HS2 HC ⊢
      simp only at hka hra HF HS1 HS2 HC hN hE ⊢
      have HKA := Lib.hid hka
      have HRA := Lib.hid hra
      clear hka hra hs hd hT hsz h2 hz hy ht h3
      go_enter Tryd.func7, Tryd.ntmps7
      go_wp2_with fail
      refine (HF.out _).mono ?_
      rintro e w1 ⟨rfl, hk1⟩
      have HK1 := Lib.hid (HKA.out.trans hk1 (fun _ _ h => h))
      have HR1 := Lib.hid (HRA.out.keeps hk1 (fun h => h))
      clear hk1 HF
      have HSX := Lib.hid (HS1.out w1 _ (BRd.keeps HD.out HK1.out) (HT.out.keeps HK1.out))
      have d0 := (HR1.out).cell 0
      have d1 := (HR1.out).cell 1
      have d2 := (HR1.out).cell 2
      have d3 := (HR1.out).cell 3
      have d4 := (HR1.out).cell 4
      have d5 := (HR1.out).cell 5
      go_wp2_with fail
      refine HSX.out.mono ?_
      rintro e w2 ⟨v2, rfl, -, hk2⟩
      have HK2 := Lib.hid (HK1.out.trans hk2 (fun _ _ h => h))
      have HR2 := Lib.hid (HR1.out.keeps hk2 (fun h => h))
      clear hk2 d0 d1 d2 d3 d4 d5 HS1 HSX HR1
      have HSX := Lib.hid (HS2.out w2 _ (BRd.keeps HD.out HK2.out) (HT.out.keeps HK2.out))
      have d0 := (HR2.out).cell 0
      have d1 := (HR2.out).cell 1
      have d2 := (HR2.out).cell 2
      have d3 := (HR2.out).cell 3
      have d4 := (HR2.out).cell 4
      have d5 := (HR2.out).cell 5
      go_wp2_with fail
      refine HSX.out.mono ?_
      rintro e w3 ⟨v3, rfl, -, hk3⟩
      have HK3 := Lib.hid (HK2.out.trans hk3 (fun _ _ h => h))
      have HR3 := Lib.hid (HR2.out.keeps hk3 (fun h => h))
      clear hk3 d0 d1 d2 d3 d4 d5 HS2 HSX HR2 HK2
      by_cases hE1 : E1 = 0
      · have hE2 : ¬ E2 = 0 := fun h => hE ⟨hE1, h⟩
        subst hE1
        clear hE
        go_wp2_with fail
        refine (HAW.out _ (HT.out.keeps HK3.out)).mono ?_
        rintro e w4 ⟨rfl, hk4⟩
        have HK4 := Lib.hid (HK3.out.trans hk4 (fun _ _ h => h))
        have HR4 := Lib.hid (HR3.out.keeps hk4 (fun h => h))
        have d0 := (HR4.out).cell 0
        have d1 := (HR4.out).cell 1
        have d2 := (HR4.out).cell 2
        have d3 := (HR4.out).cell 3
        have d4 := (HR4.out).cell 4
        have d5 := (HR4.out).cell 5
        clear hk4 HK3 HR3
        go_wp2_with fail
        refine (HC.out _).mono ?_
        rintro e w5 ⟨rfl, hk5⟩
        have HK5 := Lib.hid (HK4.out.trans hk5 (fun _ _ h => h))
        have c4 := (HR4.out.keeps hk5 (fun h => h)).cell 4
        clear hk5 HK4 HR4 d0 d1 d2 d3 d4 d5 HC
        rcases hN with rfl | ⟨rfl, hN⟩
        · rw [show mayE false = 1 from rfl]
          go_wp2
          go_ret
          exact ⟨rfl, HK5.out⟩
        · rw [show mayE true = 0 from rfl]
          rcases hN with rfl | ⟨hz1, hN⟩
          · go_wp2
            go_ret
            exact ⟨rfl, HK5.out⟩
          · rcases hN with rfl | ⟨hy1, rfl, hN⟩
            · go_wp2
              go_ret
              exact ⟨rfl, HK5.out⟩
            · rcases hN with hN | ⟨hN, hN2⟩
              · go_wp2
                go_ret
                exact ⟨rfl, HK5.out⟩
              · go_wp2
                go_ret
                exact ⟨rfl, HK5.out⟩
      · clear hE
        go_wp2_with fail
        refine (HAW.out _ (HT.out.keeps HK3.out)).mono ?_
        rintro e w4 ⟨rfl, hk4⟩
        have HK4 := Lib.hid (HK3.out.trans hk4 (fun _ _ h => h))
        have HR4 := Lib.hid (HR3.out.keeps hk4 (fun h => h))
        have d0 := (HR4.out).cell 0
        have d1 := (HR4.out).cell 1
        have d2 := (HR4.out).cell 2
        have d3 := (HR4.out).cell 3
        have d4 := (HR4.out).cell 4
        have d5 := (HR4.out).cell 5
        clear hk4 HK3 HR3
        go_wp2_with fail
        refine (HC.out _).mono ?_
        rintro e w5 ⟨rfl, hk5⟩
        have HK5 := Lib.hid (HK4.out.trans hk5 (fun _ _ h => h))
        have c4 := (HR4.out.keeps hk5 (fun h => h)).cell 4
        clear hk5 HK4 HR4 d0 d1 d2 d3 d4 d5 HC
        rcases hN with rfl | ⟨rfl, hN⟩
        · rw [show mayE false = 1 from rfl]
          go_wp2
          go_ret
          exact ⟨rfl, HK5.out⟩
        · rw [show mayE true = 0 from rfl]
          rcases hN with rfl | ⟨hz1, hN⟩
          · go_wp2
            go_ret
            exact ⟨rfl, HK5.out⟩
          · rcases hN with rfl | ⟨hy1, rfl, hN⟩
            · go_wp2
              go_ret
              exact ⟨rfl, HK5.out⟩
            · rcases hN with hN | ⟨hN, hN2⟩
              · go_wp2
                go_ret
                exact ⟨rfl, HK5.out⟩
              · go_wp2
                go_ret
                exact ⟨rfl, HK5.out⟩
  · have h2 : fw = false ∨ 300 < data.length := by
      cases fw with
      | false => exact .inl rfl
      | true => exact .inr (Nat.lt_of_not_le fun h => h1 ⟨rfl, h⟩)
    obtain ⟨spi, key, salt, mac, esn, window⟩ := sa
    unfold saC at hka hra HF ⊢
    simp only at hka hra HF ⊢
    have HKA := Lib.hid hka
    have HRA := Lib.hid hra
    clear hka hra hs hd hT hsz h1 ht
    go_enter Tryd.func7, Tryd.ntmps7
    go_wp2_with fail
    refine (HF.out _).mono ?_
    rintro e w1 ⟨rfl, hk1⟩
    have HK1 := Lib.hid (HKA.out.trans hk1 (fun _ _ h => h))
    have HR1 := Lib.hid (HRA.out.keeps hk1 (fun h => h))
    clear hk1 HF
    cases fw with
    | false =>
      go_wp2
      go_ret
      exact ⟨rfl, HK1.out⟩
    | true =>
      have h3 : (300 : Int) < data.length := by rcases h2 with h2 | h2; cases h2; omega
      clear h2
      go_wp2
      go_ret
      exact ⟨rfl, HK1.out⟩
theorem lnumbers_row (sa : SaV) (x y : Int) (dv : Value) (data : List UInt8) (w : World) (hsz : SizedSa sa) (hx : (Lit.int .u64 x).wf = true) (hy : (Lit.int .u64 y).wf = true) (hd : BAt w (· < w.heap.size) dv data) (hT : Table w) :
    Calls Tryd.prog 7 #[.agg (saC sa), .int .u64 x, .int .u64 y, dv] w fun e w' => e = .returned (.bool true) ∧ Keeps (fun _ => False) w w' := by
  obtain ⟨s, rfl, hs⟩ := u64_nat hx
  obtain ⟨t, rfl, ht⟩ := u64_nat hy
  exact lnumbers_any sa s t dv data w hsz hs ht hd hT
end Go.Proofs.YtekaoknpjpbjgaaDoor

/-! The law EspForged. -/
namespace Go.Proofs.YtekaoknpjpbjgaaDoor
set_option linter.unusedVariables false
set_option linter.unusedSimpArgs false
open Go.RowKit

theorem u64_wrap (x : Int) : IntKind.u64.wrap x = x % 18446744073709551616 := by
  simp [IntKind.wrap, IntKind.bits, IntKind.signed]
theorem cuts {w : World} {g off c N : Nat} {D : List UInt8} (h : BRd w (.slice (some ⟨g, off, none⟩) (N + 16) c) D) (hl : D.length = N + 16) :
    BRd w (.slice (some ⟨g, off + N, none⟩) 16 (c - N)) (D.drop N) ∧ BRd w (.slice (some ⟨g, off, none⟩) N c) (D.take N) ∧ N + 16 ≤ c := by
  obtain ⟨a, c1, e, h3, -⟩ := BAt.slice h
  simp only [Value.slice.injEq] at e
  obtain ⟨-, -, rfl⟩ := e
  have hcN : ¬ c = N := by omega
  have h1 : BRd w (.slice (cutA (some ⟨g, off, none⟩) c N) (N + 16 - N) (c - N)) (D.drop N) := BAt.cutG h N (by omega)
  rw [show cutA (some ⟨g, off, none⟩) c N = some ⟨g, off + N, none⟩ by unfold cutA; rw [if_neg hcN, Option.map_some, addr_add], show N + 16 - N = 16 by omega] at h1
  exact ⟨h1, BAt.take8 h N (by omega), by omega⟩
def boxC (a : Nat) (spi : Int) (key salt mac : List UInt8) (esn : Bool) (window : Int) (x : World) : Prop :=
  x.cell? ⟨a, 0, none⟩ = some (.int .i64 spi) ∧ x.cell? ⟨a, 1, none⟩ = some (.string ⟨key.toArray⟩) ∧ x.cell? ⟨a, 2, none⟩ = some (.string ⟨salt.toArray⟩) ∧ x.cell? ⟨a, 3, none⟩ = some (.string ⟨mac.toArray⟩) ∧ x.cell? ⟨a, 4, none⟩ = some (.bool esn) ∧ x.cell? ⟨a, 5, none⟩ = some (.int .i64 window)
theorem boxC_of {a : Nat} {spi : Int} {key salt mac : List UInt8} {esn : Bool} {window : Int} {x : World} {T : TypeId} (h : RowAt x a #[.int .i64 spi, .string ⟨key.toArray⟩, .string ⟨salt.toArray⟩, .string ⟨mac.toArray⟩, .bool esn, .int .i64 window] T) : boxC a spi key salt mac esn window x :=
  ⟨h.cell 0, h.cell 1, h.cell 2, h.cell 3, h.cell 4, h.cell 5⟩
/-- What a call of tag and Same tells, in the law's drawn regions. -/
def holdsS (sa : SaV) (s : Nat) (b : List UInt8) : Bool := decide (b.drop (b.length - 16) = tagS sa s (b.take (b.length - 16)))
theorem openS_holds {sa : SaV} {s : Nat} {b : List UInt8} (h : (openS sa s b).1 = 0) : holdsS sa s b = true := by
  obtain ⟨-, -, h3⟩ := openS_tag h
  unfold holdsS
  rw [h3, decide_eq_true rfl]
def putAt (b : List UInt8) (at' : Int) (c : UInt8) : List UInt8 := if 0 ≤ at' ∧ at' < b.length then b.set at'.toNat c else b
theorem putAt_len (b : List UInt8) (at' : Int) (c : UInt8) : (putAt b at' c).length = b.length := by
  unfold putAt
  split
  · rw [List.length_set]
  · rfl

set_option maxRecDepth 100000 in
set_option maxHeartbeats 4000000 in
theorem lforged_any (sa : SaV) (s : Nat) (bv : Value) (b : List UInt8) (at' : Int) (c : UInt8) (more : Nat) (w : World) (hsz : SizedSa sa) (hs : s < 18446744073709551616) (hm : more < 18446744073709551616) (hb : BRd w bv b) (hT : Table w) :
    Calls Tryd.prog 6 #[.agg (saC sa), .int .u64 s, bv, .int .i64 at', .int .u8 (c.toNat : Int), .int .u64 more] w fun e w' => e = .returned (.bool true) ∧ Keeps (fun _ => False) w w' := by
  have hka := (Keeps.refl (fun _ => False) w).alloc (.cells (saC sa) 23)
  have hra := RowAt.new w (saC sa) 23
  have HF := Lib.hid (fun w => few_any sa w hsz)
  generalize fewS sa = fw at *
  have HAW := Lib.hid eawake_any
  have HT := Lib.hid hT
  have HB := Lib.hid hb
  by_cases h1 : fw = true ∧ b.length ≤ 600
  · obtain ⟨rfl, h2⟩ := h1
    have h2' : (b.length : Int) ≤ 600 := by omega
    have HO := Lib.hid (fun (w : World) (s : Nat) (v : Value) (D : List UInt8) (hd : BRd w v D) (hs : s < 18446744073709551616) (hl : D.length ≤ 65000) (hT : Table w) => open_any sa s v D w hd hs hl hT)
    unfold OpenE at HO
    by_cases h3 : (openS sa s b).1 = 0
    · obtain ⟨hok, h36, htag⟩ := openS_tag h3
      have hmy : mayS sa = true := by
        unfold okN at hok
        simp only [Bool.and_eq_true] at hok
        exact hok.1.1
      obtain ⟨-, -, -, -, hml, -, -⟩ := (mayS_iff sa).1 hmy
      have HTG := Lib.hid (fun (v : Value) (s : Nat) (b : List UInt8) (w : World) (h1 : BRd w v b) (h2 : b.length ≤ 9000000) (h3 : Table w) (hs : s < 18446744073709551616) => ltag_any sa s v b w h1 hml h2 h3 hs)
      obtain ⟨N, hN⟩ : ∃ N, b.length = N + 16 := ⟨b.length - 16, by omega⟩
      have hN20 : 20 ≤ N := by omega
      obtain ⟨g, off, cc, rfl, hcc, -, -, -⟩ := BAt.get hb (by omega)
      rw [hN, show N + 16 - 16 = N by omega] at htag
      have hO := HO.out
      have HO1 := Lib.hid (fun (w : World) (v : Value) (hd : BRd w v b) (hT : Table w) => hO w s v b hd hs (by omega) hT)
      rw [h3] at HO1
      generalize ((openS sa s b).2.2 : Int) = xb at HO1
      have hD : ∀ D : List UInt8, D.length = N + 16 → (openS sa s D).1 = 0 → D.drop N = tagS sa s (D.take N) := fun D hl h => by
        obtain ⟨-, -, h9⟩ := openS_tag h
        rwa [hl, show N + 16 - 16 = N by omega] at h9
      obtain ⟨o, ho⟩ : ∃ o, (s + 4294967296 * (more % 1000)) % 18446744073709551616 = o := ⟨_, rfl⟩
      have ho64 : o < 18446744073709551616 := by omega
      have hDo : (openS sa o b).1 = 0 → b.drop N = tagS sa o (b.take N) := fun h => by
        obtain ⟨-, -, h9⟩ := openS_tag h
        rwa [hN, show N + 16 - 16 = N by omega] at h9
      have HO2 := Lib.hid (fun (w : World) (v : Value) (hd : BRd w v b) (hT : Table w) => hO w o v b hd ho64 (by omega) hT)
      have HOD := Lib.hid (fun (w : World) (v : Value) (D : List UInt8) (hd : BRd w v D) (hl : D.length = N + 16) (hT : Table w) => hO w s v D hd hs (by omega) hT)
      have HT1 := Lib.hid (fun (v : Value) (F : List UInt8) (w : World) (h1 : BRd w v F) (h2 : F.length ≤ 9000000) (h3 : Table w) => HTG.out v s F w h1 h2 h3 hs)
      have HT2 := Lib.hid (fun (v : Value) (F : List UInt8) (w : World) (h1 : BRd w v F) (h2 : F.length ≤ 9000000) (h3 : Table w) => HTG.out v o F w h1 h2 h3 ho64)
      have HDD := Lib.hid (And.intro hD hDo)
      have HTAG := Lib.hid htag
      have hoz : (o : Int) = ((s : Int) + 4294967296 * ((more : Int) % 1000)) % 18446744073709551616 := by omega
      obtain ⟨z, hz⟩ : ∃ z : Int, (s : Int) = z := ⟨_, rfl⟩
      obtain ⟨oI, hoI⟩ : ∃ z : Int, (o : Int) = z := ⟨_, rfl⟩
      obtain ⟨mI, hmI⟩ : ∃ z : Int, (more : Int) = z := ⟨_, rfl⟩
      have hz0 : 0 ≤ z := by omega
      have hm0 : 0 ≤ mI := by omega
      have hzm : z ≤ 18446744073709551615 := by omega
      rw [hz, hoI, hmI] at hoz
      rw [hz] at HO1 HOD HT1 ⊢
      rw [hoI] at HO2 HT2
      rw [hmI]
      have hmt : mI.tmod 1000 = mI % 1000 := Int.tmod_eq_emod_of_nonneg hm0
      have hmb : 0 ≤ mI % 1000 ∧ mI % 1000 ≤ 999 := by omega
      have HOZ := Lib.hid hoz
      obtain ⟨spi, key, salt, mac, esn, window⟩ := sa
      unfold saC at hka hra HF HO1 HO2 HOD HT1 HT2 ⊢
      simp only at hka hra HF HO1 HO2 HOD HT1 HT2 ⊢
      rw [hN] at hcc h2' ⊢
      rw [hN] at HB
      have HKA := Lib.hid hka
      have HRA := Lib.hid hra
      have HN := Lib.hid hN
      clear hka hra hs hb hT hsz hm hO HO HTG hD hDo ho hoz hz hoI hmI hml hmy hok h3 htag ho64 hN h2 h36
      go_enter Tryd.func6, Tryd.ntmps6
      go_wp2_with fail
      refine (HF.out _).mono ?_
      rintro e w1 ⟨rfl, hk1⟩
      have HK1 := Lib.hid (HKA.out.trans hk1 (fun _ _ h => h))
      have HR1 := Lib.hid (HRA.out.keeps hk1 (fun h => h))
      clear hk1 HF
      have HOX := Lib.hid (HO1.out w1 _ (BRd.keeps HB.out HK1.out) (HT.out.keeps HK1.out))
      have d0 := (HR1.out).cell 0
      have d1 := (HR1.out).cell 1
      have d2 := (HR1.out).cell 2
      have d3 := (HR1.out).cell 3
      have d4 := (HR1.out).cell 4
      have d5 := (HR1.out).cell 5
      go_wp2_with fail
      refine HOX.out.mono ?_
      rintro e w2 ⟨v2, rfl, -, hk2⟩
      have HK2 := Lib.hid (HK1.out.trans hk2 (fun _ _ h => h))
      have HR2 := Lib.hid (HR1.out.keeps hk2 (fun h => h))
      clear hk2 d0 d1 d2 d3 d4 d5 HO1 HOX HR1
      have hNlt : ¬ (N : Int) < 20 := by omega
      have hNd : decide ((N : Int) < 20) = false := decide_eq_false hNlt
      have hNle : (N : Int) ≤ (N : Int) + 16 := by omega
      have hNc : (N : Int) ≤ (cc : Int) := by omega
      have hcN : ¬ cc = N := by omega
      go_wp2
      refine region_T [11] (boxC w.heap.size spi key salt mac esn window) (by kernel_rfl) ?_
      have hC : boxC w.heap.size spi key salt mac esn window w2.drew := boxC_of HR2.out
      refine anyT_take0 (i := 0) (v := ?_) rfl (by kernel_rfl) (by kernel_rfl) (by kernel_rfl) (by kernel_rfl) (by kernel_rfl) (fun _ _ _ h => h) hC (.inl ⟨by rfl, fun _ _ => ?_⟩) ?_
      rotate_left 1
      · go_simp
        try with_reducible rfl
      simp only [Act.put, List.getElem_toArray, List.getElem_cons_succ, List.getElem_cons_zero, List.setIfInBounds_toArray, List.set_cons_zero, List.set_cons_succ]
      refine anyT_take0 (i := 1) (v := ?_) rfl (by kernel_rfl) (by kernel_rfl) (by kernel_rfl) (by kernel_rfl) (by kernel_rfl) (fun _ _ _ h => h) hC (.inl ⟨by rfl, fun _ _ => ?_⟩) ?_
      rotate_left 1
      · go_simp
        try with_reducible rfl
      simp only [Act.put, List.getElem_toArray, List.getElem_cons_succ, List.getElem_cons_zero, List.setIfInBounds_toArray, List.set_cons_zero, List.set_cons_succ]
      refine anyT_take0 (i := 2) (v := ?_) rfl (by kernel_rfl) (by kernel_rfl) (by kernel_rfl) (by kernel_rfl) (by kernel_rfl) (fun _ _ _ h => h) hC (.inl ⟨by rfl, fun _ _ => ?_⟩) ?_
      rotate_left 1
      · go_simp
        try with_reducible rfl
      simp only [Act.put, List.getElem_toArray, List.getElem_cons_succ, List.getElem_cons_zero, List.setIfInBounds_toArray, List.set_cons_zero, List.set_cons_succ]
      refine anyT_take0 (i := 3) (v := ?_) rfl (by kernel_rfl) (by kernel_rfl) (by kernel_rfl) (by kernel_rfl) (by kernel_rfl) (fun _ _ _ h => h) hC (.inl ⟨by rfl, fun _ _ => ?_⟩) ?_
      rotate_left 1
      · go_simp
        try with_reducible rfl
      simp only [Act.put, List.getElem_toArray, List.getElem_cons_succ, List.getElem_cons_zero, List.setIfInBounds_toArray, List.set_cons_zero, List.set_cons_succ]
      refine anyT_take0 (i := 4) (v := ?_) rfl (by kernel_rfl) (by kernel_rfl) (by kernel_rfl) (by kernel_rfl) (by kernel_rfl) (fun _ _ _ h => h) hC (.inl ⟨by rfl, fun _ _ => ?_⟩) ?_
      rotate_left 1
      · go_simp
        try with_reducible rfl
      simp only [Act.put, List.getElem_toArray, List.getElem_cons_succ, List.getElem_cons_zero, List.setIfInBounds_toArray, List.set_cons_zero, List.set_cons_succ]
      refine anyT_take0 (i := 5) (v := ?_) rfl (by kernel_rfl) (by kernel_rfl) (by kernel_rfl) (by kernel_rfl) (by kernel_rfl) (fun _ _ _ h => h) hC (.inl ⟨by rfl, fun _ _ => ?_⟩) ?_
      rotate_left 1
      · go_simp
        try with_reducible rfl
      simp only [Act.put, List.getElem_toArray, List.getElem_cons_succ, List.getElem_cons_zero, List.setIfInBounds_toArray, List.set_cons_zero, List.set_cons_succ]
      refine anyT_takeC (i := 6) (v := ?_) rfl (by kernel_rfl) (by kernel_rfl) (by kernel_rfl) (by kernel_rfl) (by kernel_rfl) (by kernel_rfl) (fun _ _ _ h => h) hC (.inl ⟨by rfl, fun w hCw => ?_⟩) ?_
      rotate_left 1
      · obtain ⟨b0, b1, b2, b3, b4, b5⟩ := hCw
        go_simp
        try with_reducible rfl
      simp only [Act.put, List.getElem_toArray, List.getElem_cons_succ, List.getElem_cons_zero, List.setIfInBounds_toArray, List.set_cons_zero, List.set_cons_succ]
      refine anyT_take0 (i := 7) (v := ?_) rfl (by kernel_rfl) (by kernel_rfl) (by kernel_rfl) (by kernel_rfl) (by kernel_rfl) (fun _ _ _ h => h) hC (.inl ⟨by rfl, fun _ _ => ?_⟩) ?_
      rotate_left 1
      · go_simp
        try with_reducible rfl
      simp only [Act.put, List.getElem_toArray, List.getElem_cons_succ, List.getElem_cons_zero, List.setIfInBounds_toArray, List.set_cons_zero, List.set_cons_succ]
      refine anyT_take0 (i := 8) (v := ?_) rfl (by kernel_rfl) (by kernel_rfl) (by kernel_rfl) (by kernel_rfl) (by kernel_rfl) (fun _ _ _ h => h) hC (.inl ⟨by rfl, fun _ _ => ?_⟩) ?_
      rotate_left 1
      · go_simp
        try with_reducible rfl
      simp only [Act.put, List.getElem_toArray, List.getElem_cons_succ, List.getElem_cons_zero, List.setIfInBounds_toArray, List.set_cons_zero, List.set_cons_succ]
      refine anyT_take0 (i := 9) (v := ?_) rfl (by kernel_rfl) (by kernel_rfl) (by kernel_rfl) (by kernel_rfl) (by kernel_rfl) (fun _ _ _ h => h) hC (.inl ⟨by rfl, fun _ _ => ?_⟩) ?_
      rotate_left 1
      · go_simp
        try with_reducible rfl
      simp only [Act.put, List.getElem_toArray, List.getElem_cons_succ, List.getElem_cons_zero, List.setIfInBounds_toArray, List.set_cons_zero, List.set_cons_succ]
      refine anyT_take0 (i := 10) (v := ?_) rfl (by kernel_rfl) (by kernel_rfl) (by kernel_rfl) (by kernel_rfl) (by kernel_rfl) (fun _ _ _ h => h) hC (.inl ⟨by rfl, fun _ _ => ?_⟩) ?_
      rotate_left 1
      · go_simp
        try with_reducible rfl
      simp only [Act.put, List.getElem_toArray, List.getElem_cons_succ, List.getElem_cons_zero, List.setIfInBounds_toArray, List.set_cons_zero, List.set_cons_succ]
      refine anyT_tail (k := 11) (by rfl) (by kernel_rfl) (by simp) rfl rfl (by kernel_rfl) ?_
      have hkd : Keeps (fun _ => False) w w2.drew := HK2.out.drew
      obtain ⟨q1, q2, -⟩ := cuts (BRd.keeps HB.out hkd) HN.out
      go_wp2_with fail
      refine (HT1.out _ _ _ q2 (by rw [List.length_take]; omega) (HT.out.keeps hkd)).mono ?_
      rintro e w3 ⟨v3, rfl, ho3, hk3⟩
      have hk03 := hkd.trans hk3 (fun _ _ h => h)
      have HSM := Lib.hid (same_any _ _ _ _ w3 _ _ (BRd.keeps q1 hk3) ho3.bat)
      rw [← HTAG.out, decide_eq_true rfl] at HSM
      obtain ⟨a3, c3, rfl, -, -⟩ := ho3.slice
      have HK3 := Lib.hid hk03
      have HR3 := Lib.hid ((HR2.out.keeps (Keeps.refl (fun _ => False) w2).drew (fun h => h)).keeps hk3 (fun h => h))
      clear ho3 hk03 hk3 q1 q2 hkd hC HR2 HK2
      go_wp2_with fail
      refine HSM.out.mono ?_
      rintro e w4 ⟨rfl, rfl⟩
      clear HSM
      have hk4 := HK3.out.alloc (.cells #[.slice (some ⟨g, off, none⟩) (N + 16) cc] 25)
      have HBO := Lib.hid (both_any _ [b] _ (by have h := (BBAt.one (T := 25) (BRd.keeps HB.out HK3.out)).low; exact h) (by simp; have := HN.out; omega))
      have HR4 := Lib.hid (HR3.out.alloc (.cells #[.slice (some ⟨g, off, none⟩) (N + 16) cc] 25))
      have HK4 := Lib.hid hk4
      have hz4 := size_alloc w3 (.cells #[.slice (some ⟨g, off, none⟩) (N + 16) cc] 25)
      clear hk4 HK3 HR3
      go_wp2_with fail
      refine HBO.out.mono ?_
      rintro e w5 ⟨v5, rfl, ho5, hk5⟩
      rw [show [b].flatten = b by simp] at ho5
      obtain ⟨g5, o5, c5, rfl, hc5, -, hg5⟩ := ho5.place (by have := HN.out; omega)
      have HR5 := Lib.hid (HR4.out.keeps hk5 (fun h => h))
      have hwl := HR4.out.lt
      have hg5' : w.heap.size < g5 := by omega
      rw [HN.out] at ho5 hc5 ⊢
      have HK5 := Lib.hid (HK4.out.trans hk5 (fun _ _ h => h))
      have hN5 : (N : Int) ≤ (c5 : Int) := by omega
      clear hk5 HBO HR4 HK4 hwl hg5 hz4
      by_cases hat : 0 ≤ at' ∧ at' < (N : Int) + 16
      · obtain ⟨k, rfl⟩ : ∃ k : Nat, at' = k := ⟨at'.toNat, by omega⟩
        have hat1 := hat.1
        have hat2 := hat.2
        obtain ⟨t1, t2, t3⟩ := ho5.at k (by rw [HN.out]; omega)
        have hb6 := t3 c
        have hk6 := HK5.out.setCell ⟨g5, o5 + k, none⟩ (.int .u8 (c.toNat : Int)) (.inr (Nat.le_of_lt hg5'))
        have hr6 := HR5.out.setOther ⟨g5, o5 + k, none⟩ (.int .u8 (c.toNat : Int)) (Nat.ne_of_lt hg5')
        have hDl : (b.set k c).length = N + 16 := by rw [List.length_set]; exact HN.out
        have HD := Lib.hid (show BRd _ _ (b.set k c) from hb6.bat.low)
        have HKW := Lib.hid hk6
        have HRW := Lib.hid hr6
        obtain ⟨y, ty⟩ : ∃ y : UInt8, w5.cell? ⟨g5, o5 + k, none⟩ = some (.int .u8 (y.toNat : Int)) := ⟨_, t1⟩
        clear t1 t3 hb6 hk6 hr6 HK5 HR5 hat ho5
        have d0 := (HRW.out).cell 0
        have d1 := (HRW.out).cell 1
        have d2 := (HRW.out).cell 2
        have d3 := (HRW.out).cell 3
        have d4 := (HRW.out).cell 4
        have d5 := (HRW.out).cell 5
        go_wp2_with fail
        generalize w5.setCell ⟨g5, o5 + k, none⟩ (.int .u8 (c.toNat : Int)) = W at *
        generalize b.set k c = D at *
        clear d0 d1 d2 d3 d4 d5 ty t2 hat1 hat2 w5
        have hOD := HOD.out W _ D HD.out hDl (HT.out.keeps HKW.out)
        have hDF := HDD.out.1 D hDl
        generalize (openS ⟨spi, key, salt, mac, esn, window⟩ s D) = OD at *
        obtain ⟨F, Fd, Fx⟩ := OD
        simp only at hOD hDF
        refine hOD.mono ?_
        rintro e w6 ⟨v6, rfl, -, hk6⟩
        have HK6 := Lib.hid (HKW.out.trans hk6 (fun _ _ h => h))
        have HR6 := Lib.hid (HRW.out.keeps hk6 (fun h => h))
        have HD6 := Lib.hid (BRd.keeps HD.out hk6)
        clear hk6 hOD HKW HRW HD W
        have hcN5 : ¬ c5 = N := by omega
        go_wp2
        refine region_T [8] (boxC w.heap.size spi key salt mac esn window) (by kernel_rfl) ?_
        have hC : boxC w.heap.size spi key salt mac esn window w6.drew := boxC_of HR6.out
        refine anyT_take0 (i := 0) (v := ?_) rfl (by kernel_rfl) (by kernel_rfl) (by kernel_rfl) (by kernel_rfl) (by kernel_rfl) (fun _ _ _ h => h) hC (.inl ⟨by rfl, fun _ _ => ?_⟩) ?_
        rotate_left 1
        · go_simp
          try with_reducible rfl
        simp only [Act.put, List.getElem_toArray, List.getElem_cons_succ, List.getElem_cons_zero, List.setIfInBounds_toArray, List.set_cons_zero, List.set_cons_succ]
        refine anyT_take0 (i := 1) (v := ?_) rfl (by kernel_rfl) (by kernel_rfl) (by kernel_rfl) (by kernel_rfl) (by kernel_rfl) (fun _ _ _ h => h) hC (.inl ⟨by rfl, fun _ _ => ?_⟩) ?_
        rotate_left 1
        · go_simp
          try with_reducible rfl
        simp only [Act.put, List.getElem_toArray, List.getElem_cons_succ, List.getElem_cons_zero, List.setIfInBounds_toArray, List.set_cons_zero, List.set_cons_succ]
        refine anyT_take0 (i := 2) (v := ?_) rfl (by kernel_rfl) (by kernel_rfl) (by kernel_rfl) (by kernel_rfl) (by kernel_rfl) (fun _ _ _ h => h) hC (.inl ⟨by rfl, fun _ _ => ?_⟩) ?_
        rotate_left 1
        · go_simp
          try with_reducible rfl
        simp only [Act.put, List.getElem_toArray, List.getElem_cons_succ, List.getElem_cons_zero, List.setIfInBounds_toArray, List.set_cons_zero, List.set_cons_succ]
        refine anyT_takeC (i := 3) (v := ?_) rfl (by kernel_rfl) (by kernel_rfl) (by kernel_rfl) (by kernel_rfl) (by kernel_rfl) (by kernel_rfl) (fun _ _ _ h => h) hC (.inl ⟨by rfl, fun w hCw => ?_⟩) ?_
        rotate_left 1
        · obtain ⟨b0, b1, b2, b3, b4, b5⟩ := hCw
          go_simp
          try with_reducible rfl
        simp only [Act.put, List.getElem_toArray, List.getElem_cons_succ, List.getElem_cons_zero, List.setIfInBounds_toArray, List.set_cons_zero, List.set_cons_succ]
        refine anyT_take0 (i := 4) (v := ?_) rfl (by kernel_rfl) (by kernel_rfl) (by kernel_rfl) (by kernel_rfl) (by kernel_rfl) (fun _ _ _ h => h) hC (.inl ⟨by rfl, fun _ _ => ?_⟩) ?_
        rotate_left 1
        · go_simp
          try with_reducible rfl
        simp only [Act.put, List.getElem_toArray, List.getElem_cons_succ, List.getElem_cons_zero, List.setIfInBounds_toArray, List.set_cons_zero, List.set_cons_succ]
        refine anyT_take0 (i := 5) (v := ?_) rfl (by kernel_rfl) (by kernel_rfl) (by kernel_rfl) (by kernel_rfl) (by kernel_rfl) (fun _ _ _ h => h) hC (.inl ⟨by rfl, fun _ _ => ?_⟩) ?_
        rotate_left 1
        · go_simp
          try with_reducible rfl
        simp only [Act.put, List.getElem_toArray, List.getElem_cons_succ, List.getElem_cons_zero, List.setIfInBounds_toArray, List.set_cons_zero, List.set_cons_succ]
        refine anyT_take0 (i := 6) (v := ?_) rfl (by kernel_rfl) (by kernel_rfl) (by kernel_rfl) (by kernel_rfl) (by kernel_rfl) (fun _ _ _ h => h) hC (.inl ⟨by rfl, fun _ _ => ?_⟩) ?_
        rotate_left 1
        · go_simp
          try with_reducible rfl
        simp only [Act.put, List.getElem_toArray, List.getElem_cons_succ, List.getElem_cons_zero, List.setIfInBounds_toArray, List.set_cons_zero, List.set_cons_succ]
        refine anyT_take0 (i := 7) (v := ?_) rfl (by kernel_rfl) (by kernel_rfl) (by kernel_rfl) (by kernel_rfl) (by kernel_rfl) (fun _ _ _ h => h) hC (.inl ⟨by rfl, fun _ _ => ?_⟩) ?_
        rotate_left 1
        · go_simp
          try with_reducible rfl
        simp only [Act.put, List.getElem_toArray, List.getElem_cons_succ, List.getElem_cons_zero, List.setIfInBounds_toArray, List.set_cons_zero, List.set_cons_succ]
        refine anyT_tail (k := 8) (by rfl) (by kernel_rfl) (by simp) rfl rfl (by kernel_rfl) ?_
        have hkd : Keeps (fun _ => False) w6 w6.drew := (Keeps.refl _ _).drew
        obtain ⟨q1, q2, -⟩ := cuts (BRd.keeps HD6.out hkd) hDl
        have hdl : (D.take N).length ≤ 9000000 := by rw [List.length_take]; omega
        have HDF := Lib.hid hDF
        clear hDF hC
        generalize D.take N = DT at *
        generalize D.drop N = DD at *
        go_wp2_with fail
        refine (HT1.out _ _ _ q2 hdl (HT.out.keeps (HK6.out.trans hkd (fun _ _ h => h)))).mono ?_
        rintro e w7 ⟨v7, rfl, ho7, hk7⟩
        generalize tagS ⟨spi, key, salt, mac, esn, window⟩ s DT = TD at *
        have hk67 := hkd.trans hk7 (fun _ _ h => h)
        have HSM := Lib.hid (same_any _ _ _ _ w7 _ _ (BRd.keeps q1 hk7) ho7.bat)
        obtain ⟨a7, c7, rfl, -, -⟩ := ho7.slice
        have HK7 := Lib.hid (HK6.out.trans hk67 (fun _ _ h => h))
        have HR7 := Lib.hid (HR6.out.keeps hk67 (fun h => h))
        have hFb : F = 0 → decide (DD = TD) = true := fun h => decide_eq_true (HDF.out h)
        generalize decide (DD = TD) = hb at *
        clear ho7 hk7 hk67 q1 q2 hkd HR6 HK6 HD6 HDF hdl
        go_wp2_with fail
        refine HSM.out.mono ?_
        rintro e w8 ⟨rfl, rfl⟩
        clear HSM
        by_cases hF : F = 0
        · have hb1 := hFb hF
          subst hF hb1
          clear hFb
          have d0 := (HR7.out).cell 0
          have d1 := (HR7.out).cell 1
          have d2 := (HR7.out).cell 2
          have d3 := (HR7.out).cell 3
          have d4 := (HR7.out).cell 4
          have d5 := (HR7.out).cell 5
          go_wp2_with fail
          rw [show IntKind.u64.wrap (z + 4294967296 * (mI % 1000)) = oI by rw [u64_wrap]; exact HOZ.out.symm]
          have hO2 := HO2.out w7 _ (BRd.keeps HB.out HK7.out) (HT.out.keeps HK7.out)
          have hDF := HDD.out.2
          generalize (openS ⟨spi, key, salt, mac, esn, window⟩ o b) = OG at *
          obtain ⟨G, Gd, Gx⟩ := OG
          simp only at hO2 hDF
          refine hO2.mono ?_
          rintro e w8 ⟨v8, rfl, -, hk8⟩
          have HK8 := Lib.hid (HK7.out.trans hk8 (fun _ _ h => h))
          have HR8 := Lib.hid (HR7.out.keeps hk8 (fun h => h))
          clear hk8 hO2 HK7 HR7 d0 d1 d2 d3 d4 d5
          go_wp2
          refine region_T [8] (boxC w.heap.size spi key salt mac esn window) (by kernel_rfl) ?_
          have hC : boxC w.heap.size spi key salt mac esn window w8.drew := boxC_of HR8.out
          refine anyT_take0 (i := 0) (v := ?_) rfl (by kernel_rfl) (by kernel_rfl) (by kernel_rfl) (by kernel_rfl) (by kernel_rfl) (fun _ _ _ h => h) hC (.inl ⟨by rfl, fun _ _ => ?_⟩) ?_
          rotate_left 1
          · go_simp
            try with_reducible rfl
          simp only [Act.put, List.getElem_toArray, List.getElem_cons_succ, List.getElem_cons_zero, List.setIfInBounds_toArray, List.set_cons_zero, List.set_cons_succ]
          refine anyT_take0 (i := 1) (v := ?_) rfl (by kernel_rfl) (by kernel_rfl) (by kernel_rfl) (by kernel_rfl) (by kernel_rfl) (fun _ _ _ h => h) hC (.inl ⟨by rfl, fun _ _ => ?_⟩) ?_
          rotate_left 1
          · go_simp
            try with_reducible rfl
          simp only [Act.put, List.getElem_toArray, List.getElem_cons_succ, List.getElem_cons_zero, List.setIfInBounds_toArray, List.set_cons_zero, List.set_cons_succ]
          refine anyT_take0 (i := 2) (v := ?_) rfl (by kernel_rfl) (by kernel_rfl) (by kernel_rfl) (by kernel_rfl) (by kernel_rfl) (fun _ _ _ h => h) hC (.inl ⟨by rfl, fun _ _ => ?_⟩) ?_
          rotate_left 1
          · go_simp
            try with_reducible rfl
          simp only [Act.put, List.getElem_toArray, List.getElem_cons_succ, List.getElem_cons_zero, List.setIfInBounds_toArray, List.set_cons_zero, List.set_cons_succ]
          refine anyT_takeC (i := 3) (v := ?_) rfl (by kernel_rfl) (by kernel_rfl) (by kernel_rfl) (by kernel_rfl) (by kernel_rfl) (by kernel_rfl) (fun _ _ _ h => h) hC (.inl ⟨by rfl, fun w hCw => ?_⟩) ?_
          rotate_left 1
          · obtain ⟨b0, b1, b2, b3, b4, b5⟩ := hCw
            go_simp
            try with_reducible rfl
          simp only [Act.put, List.getElem_toArray, List.getElem_cons_succ, List.getElem_cons_zero, List.setIfInBounds_toArray, List.set_cons_zero, List.set_cons_succ]
          refine anyT_take0 (i := 4) (v := ?_) rfl (by kernel_rfl) (by kernel_rfl) (by kernel_rfl) (by kernel_rfl) (by kernel_rfl) (fun _ _ _ h => h) hC (.inl ⟨by rfl, fun _ _ => ?_⟩) ?_
          rotate_left 1
          · go_simp
            try with_reducible rfl
          simp only [Act.put, List.getElem_toArray, List.getElem_cons_succ, List.getElem_cons_zero, List.setIfInBounds_toArray, List.set_cons_zero, List.set_cons_succ]
          refine anyT_take0 (i := 5) (v := ?_) rfl (by kernel_rfl) (by kernel_rfl) (by kernel_rfl) (by kernel_rfl) (by kernel_rfl) (fun _ _ _ h => h) hC (.inl ⟨by rfl, fun _ _ => ?_⟩) ?_
          rotate_left 1
          · go_simp
            try with_reducible rfl
          simp only [Act.put, List.getElem_toArray, List.getElem_cons_succ, List.getElem_cons_zero, List.setIfInBounds_toArray, List.set_cons_zero, List.set_cons_succ]
          refine anyT_take0 (i := 6) (v := ?_) rfl (by kernel_rfl) (by kernel_rfl) (by kernel_rfl) (by kernel_rfl) (by kernel_rfl) (fun _ _ _ h => h) hC (.inl ⟨by rfl, fun _ _ => ?_⟩) ?_
          rotate_left 1
          · go_simp
            try with_reducible rfl
          simp only [Act.put, List.getElem_toArray, List.getElem_cons_succ, List.getElem_cons_zero, List.setIfInBounds_toArray, List.set_cons_zero, List.set_cons_succ]
          refine anyT_take0 (i := 7) (v := ?_) rfl (by kernel_rfl) (by kernel_rfl) (by kernel_rfl) (by kernel_rfl) (by kernel_rfl) (fun _ _ _ h => h) hC (.inl ⟨by rfl, fun _ _ => ?_⟩) ?_
          rotate_left 1
          · go_simp
            try with_reducible rfl
          simp only [Act.put, List.getElem_toArray, List.getElem_cons_succ, List.getElem_cons_zero, List.setIfInBounds_toArray, List.set_cons_zero, List.set_cons_succ]
          refine anyT_tail (k := 8) (by rfl) (by kernel_rfl) (by simp) rfl rfl (by kernel_rfl) ?_
          have hkd : Keeps (fun _ => False) w w8.drew := HK8.out.drew
          obtain ⟨q1, q2, -⟩ := cuts (BRd.keeps HB.out hkd) HN.out
          have hdl : (b.take N).length ≤ 9000000 := by rw [List.length_take]; omega
          have HDF := Lib.hid hDF
          clear hDF hC
          generalize b.take N = BT at *
          generalize b.drop N = BD at *
          go_wp2_with fail
          refine (HT2.out _ _ _ q2 hdl (HT.out.keeps hkd)).mono ?_
          rintro e w9 ⟨v9, rfl, ho9, hk9⟩
          generalize tagS ⟨spi, key, salt, mac, esn, window⟩ o BT = TB at *
          have HSM := Lib.hid (same_any _ _ _ _ w9 _ _ (BRd.keeps q1 hk9) ho9.bat)
          obtain ⟨a9, c9, rfl, -, -⟩ := ho9.slice
          have HK9 := Lib.hid (hkd.trans hk9 (fun _ _ h => h))
          have hFc : G = 0 → decide (BD = TB) = true := fun h => decide_eq_true (HDF.out h)
          generalize decide (BD = TB) = hc at *
          clear ho9 hk9 q1 q2 hkd HR8 HK8 HDF hdl
          go_wp2_with fail
          refine HSM.out.mono ?_
          rintro e w10 ⟨rfl, rfl⟩
          clear HSM
          go_wp2_with fail
          refine (HAW.out _ (HT.out.keeps HK9.out)).mono ?_
          rintro e w11 ⟨rfl, hk11⟩
          have HK11 := Lib.hid (HK9.out.trans hk11 (fun _ _ h => h))
          clear hk11
          by_cases hG : G = 0
          · have hc1 := hFc hG
            subst hG hc1
            go_wp2
            go_ret
            exact ⟨rfl, HK11.out⟩
          · clear hFc
            go_wp2
            go_ret
            exact ⟨rfl, HK11.out⟩
        · clear hFb
          have d0 := (HR7.out).cell 0
          have d1 := (HR7.out).cell 1
          have d2 := (HR7.out).cell 2
          have d3 := (HR7.out).cell 3
          have d4 := (HR7.out).cell 4
          have d5 := (HR7.out).cell 5
          go_wp2_with fail
          rw [show IntKind.u64.wrap (z + 4294967296 * (mI % 1000)) = oI by rw [u64_wrap]; exact HOZ.out.symm]
          have hO2 := HO2.out w7 _ (BRd.keeps HB.out HK7.out) (HT.out.keeps HK7.out)
          have hDF := HDD.out.2
          generalize (openS ⟨spi, key, salt, mac, esn, window⟩ o b) = OG at *
          obtain ⟨G, Gd, Gx⟩ := OG
          simp only at hO2 hDF
          refine hO2.mono ?_
          rintro e w8 ⟨v8, rfl, -, hk8⟩
          have HK8 := Lib.hid (HK7.out.trans hk8 (fun _ _ h => h))
          have HR8 := Lib.hid (HR7.out.keeps hk8 (fun h => h))
          clear hk8 hO2 HK7 HR7 d0 d1 d2 d3 d4 d5
          go_wp2
          refine region_T [8] (boxC w.heap.size spi key salt mac esn window) (by kernel_rfl) ?_
          have hC : boxC w.heap.size spi key salt mac esn window w8.drew := boxC_of HR8.out
          refine anyT_take0 (i := 0) (v := ?_) rfl (by kernel_rfl) (by kernel_rfl) (by kernel_rfl) (by kernel_rfl) (by kernel_rfl) (fun _ _ _ h => h) hC (.inl ⟨by rfl, fun _ _ => ?_⟩) ?_
          rotate_left 1
          · go_simp
            try with_reducible rfl
          simp only [Act.put, List.getElem_toArray, List.getElem_cons_succ, List.getElem_cons_zero, List.setIfInBounds_toArray, List.set_cons_zero, List.set_cons_succ]
          refine anyT_take0 (i := 1) (v := ?_) rfl (by kernel_rfl) (by kernel_rfl) (by kernel_rfl) (by kernel_rfl) (by kernel_rfl) (fun _ _ _ h => h) hC (.inl ⟨by rfl, fun _ _ => ?_⟩) ?_
          rotate_left 1
          · go_simp
            try with_reducible rfl
          simp only [Act.put, List.getElem_toArray, List.getElem_cons_succ, List.getElem_cons_zero, List.setIfInBounds_toArray, List.set_cons_zero, List.set_cons_succ]
          refine anyT_take0 (i := 2) (v := ?_) rfl (by kernel_rfl) (by kernel_rfl) (by kernel_rfl) (by kernel_rfl) (by kernel_rfl) (fun _ _ _ h => h) hC (.inl ⟨by rfl, fun _ _ => ?_⟩) ?_
          rotate_left 1
          · go_simp
            try with_reducible rfl
          simp only [Act.put, List.getElem_toArray, List.getElem_cons_succ, List.getElem_cons_zero, List.setIfInBounds_toArray, List.set_cons_zero, List.set_cons_succ]
          refine anyT_takeC (i := 3) (v := ?_) rfl (by kernel_rfl) (by kernel_rfl) (by kernel_rfl) (by kernel_rfl) (by kernel_rfl) (by kernel_rfl) (fun _ _ _ h => h) hC (.inl ⟨by rfl, fun w hCw => ?_⟩) ?_
          rotate_left 1
          · obtain ⟨b0, b1, b2, b3, b4, b5⟩ := hCw
            go_simp
            try with_reducible rfl
          simp only [Act.put, List.getElem_toArray, List.getElem_cons_succ, List.getElem_cons_zero, List.setIfInBounds_toArray, List.set_cons_zero, List.set_cons_succ]
          refine anyT_take0 (i := 4) (v := ?_) rfl (by kernel_rfl) (by kernel_rfl) (by kernel_rfl) (by kernel_rfl) (by kernel_rfl) (fun _ _ _ h => h) hC (.inl ⟨by rfl, fun _ _ => ?_⟩) ?_
          rotate_left 1
          · go_simp
            try with_reducible rfl
          simp only [Act.put, List.getElem_toArray, List.getElem_cons_succ, List.getElem_cons_zero, List.setIfInBounds_toArray, List.set_cons_zero, List.set_cons_succ]
          refine anyT_take0 (i := 5) (v := ?_) rfl (by kernel_rfl) (by kernel_rfl) (by kernel_rfl) (by kernel_rfl) (by kernel_rfl) (fun _ _ _ h => h) hC (.inl ⟨by rfl, fun _ _ => ?_⟩) ?_
          rotate_left 1
          · go_simp
            try with_reducible rfl
          simp only [Act.put, List.getElem_toArray, List.getElem_cons_succ, List.getElem_cons_zero, List.setIfInBounds_toArray, List.set_cons_zero, List.set_cons_succ]
          refine anyT_take0 (i := 6) (v := ?_) rfl (by kernel_rfl) (by kernel_rfl) (by kernel_rfl) (by kernel_rfl) (by kernel_rfl) (fun _ _ _ h => h) hC (.inl ⟨by rfl, fun _ _ => ?_⟩) ?_
          rotate_left 1
          · go_simp
            try with_reducible rfl
          simp only [Act.put, List.getElem_toArray, List.getElem_cons_succ, List.getElem_cons_zero, List.setIfInBounds_toArray, List.set_cons_zero, List.set_cons_succ]
          refine anyT_take0 (i := 7) (v := ?_) rfl (by kernel_rfl) (by kernel_rfl) (by kernel_rfl) (by kernel_rfl) (by kernel_rfl) (fun _ _ _ h => h) hC (.inl ⟨by rfl, fun _ _ => ?_⟩) ?_
          rotate_left 1
          · go_simp
            try with_reducible rfl
          simp only [Act.put, List.getElem_toArray, List.getElem_cons_succ, List.getElem_cons_zero, List.setIfInBounds_toArray, List.set_cons_zero, List.set_cons_succ]
          refine anyT_tail (k := 8) (by rfl) (by kernel_rfl) (by simp) rfl rfl (by kernel_rfl) ?_
          have hkd : Keeps (fun _ => False) w w8.drew := HK8.out.drew
          obtain ⟨q1, q2, -⟩ := cuts (BRd.keeps HB.out hkd) HN.out
          have hdl : (b.take N).length ≤ 9000000 := by rw [List.length_take]; omega
          have HDF := Lib.hid hDF
          clear hDF hC
          generalize b.take N = BT at *
          generalize b.drop N = BD at *
          go_wp2_with fail
          refine (HT2.out _ _ _ q2 hdl (HT.out.keeps hkd)).mono ?_
          rintro e w9 ⟨v9, rfl, ho9, hk9⟩
          generalize tagS ⟨spi, key, salt, mac, esn, window⟩ o BT = TB at *
          have HSM := Lib.hid (same_any _ _ _ _ w9 _ _ (BRd.keeps q1 hk9) ho9.bat)
          obtain ⟨a9, c9, rfl, -, -⟩ := ho9.slice
          have HK9 := Lib.hid (hkd.trans hk9 (fun _ _ h => h))
          have hFc : G = 0 → decide (BD = TB) = true := fun h => decide_eq_true (HDF.out h)
          generalize decide (BD = TB) = hc at *
          clear ho9 hk9 q1 q2 hkd HR8 HK8 HDF hdl
          go_wp2_with fail
          refine HSM.out.mono ?_
          rintro e w10 ⟨rfl, rfl⟩
          clear HSM
          go_wp2_with fail
          refine (HAW.out _ (HT.out.keeps HK9.out)).mono ?_
          rintro e w11 ⟨rfl, hk11⟩
          have HK11 := Lib.hid (HK9.out.trans hk11 (fun _ _ h => h))
          clear hk11
          by_cases hG : G = 0
          · have hc1 := hFc hG
            subst hG hc1
            go_wp2
            go_ret
            exact ⟨rfl, HK11.out⟩
          · clear hFc
            go_wp2
            go_ret
            exact ⟨rfl, HK11.out⟩
      · have hat1 : at' < 0 ∨ (0 ≤ at' ∧ (N : Int) + 16 ≤ at') := by omega
        have HD := Lib.hid (show BRd _ _ b from ho5.bat.low)
        have hDl := HN.out
        clear hat ho5
        rcases hat1 with hat1 | ⟨hat1, hat2⟩
        · have d0 := (HR5.out).cell 0
          have d1 := (HR5.out).cell 1
          have d2 := (HR5.out).cell 2
          have d3 := (HR5.out).cell 3
          have d4 := (HR5.out).cell 4
          have d5 := (HR5.out).cell 5
          go_wp2_with fail
          clear d0 d1 d2 d3 d4 d5 hat1
          have HKW := HK5
          have HRW := HR5
          clear HK5 HR5
          generalize w5 = W at *
          obtain ⟨D, hDb⟩ : ∃ D, b = D := ⟨_, rfl⟩
          rw [hDb] at HD hDl
          clear hDb
          have hOD := HOD.out W _ D HD.out hDl (HT.out.keeps HKW.out)
          have hDF := HDD.out.1 D hDl
          generalize (openS ⟨spi, key, salt, mac, esn, window⟩ s D) = OD at *
          obtain ⟨F, Fd, Fx⟩ := OD
          simp only at hOD hDF
          refine hOD.mono ?_
          rintro e w6 ⟨v6, rfl, -, hk6⟩
          have HK6 := Lib.hid (HKW.out.trans hk6 (fun _ _ h => h))
          have HR6 := Lib.hid (HRW.out.keeps hk6 (fun h => h))
          have HD6 := Lib.hid (BRd.keeps HD.out hk6)
          clear hk6 hOD HKW HRW HD W
          have hcN5 : ¬ c5 = N := by omega
          go_wp2
          refine region_T [8] (boxC w.heap.size spi key salt mac esn window) (by kernel_rfl) ?_
          have hC : boxC w.heap.size spi key salt mac esn window w6.drew := boxC_of HR6.out
          refine anyT_take0 (i := 0) (v := ?_) rfl (by kernel_rfl) (by kernel_rfl) (by kernel_rfl) (by kernel_rfl) (by kernel_rfl) (fun _ _ _ h => h) hC (.inl ⟨by rfl, fun _ _ => ?_⟩) ?_
          rotate_left 1
          · go_simp
            try with_reducible rfl
          simp only [Act.put, List.getElem_toArray, List.getElem_cons_succ, List.getElem_cons_zero, List.setIfInBounds_toArray, List.set_cons_zero, List.set_cons_succ]
          refine anyT_take0 (i := 1) (v := ?_) rfl (by kernel_rfl) (by kernel_rfl) (by kernel_rfl) (by kernel_rfl) (by kernel_rfl) (fun _ _ _ h => h) hC (.inl ⟨by rfl, fun _ _ => ?_⟩) ?_
          rotate_left 1
          · go_simp
            try with_reducible rfl
          simp only [Act.put, List.getElem_toArray, List.getElem_cons_succ, List.getElem_cons_zero, List.setIfInBounds_toArray, List.set_cons_zero, List.set_cons_succ]
          refine anyT_take0 (i := 2) (v := ?_) rfl (by kernel_rfl) (by kernel_rfl) (by kernel_rfl) (by kernel_rfl) (by kernel_rfl) (fun _ _ _ h => h) hC (.inl ⟨by rfl, fun _ _ => ?_⟩) ?_
          rotate_left 1
          · go_simp
            try with_reducible rfl
          simp only [Act.put, List.getElem_toArray, List.getElem_cons_succ, List.getElem_cons_zero, List.setIfInBounds_toArray, List.set_cons_zero, List.set_cons_succ]
          refine anyT_takeC (i := 3) (v := ?_) rfl (by kernel_rfl) (by kernel_rfl) (by kernel_rfl) (by kernel_rfl) (by kernel_rfl) (by kernel_rfl) (fun _ _ _ h => h) hC (.inl ⟨by rfl, fun w hCw => ?_⟩) ?_
          rotate_left 1
          · obtain ⟨b0, b1, b2, b3, b4, b5⟩ := hCw
            go_simp
            try with_reducible rfl
          simp only [Act.put, List.getElem_toArray, List.getElem_cons_succ, List.getElem_cons_zero, List.setIfInBounds_toArray, List.set_cons_zero, List.set_cons_succ]
          refine anyT_take0 (i := 4) (v := ?_) rfl (by kernel_rfl) (by kernel_rfl) (by kernel_rfl) (by kernel_rfl) (by kernel_rfl) (fun _ _ _ h => h) hC (.inl ⟨by rfl, fun _ _ => ?_⟩) ?_
          rotate_left 1
          · go_simp
            try with_reducible rfl
          simp only [Act.put, List.getElem_toArray, List.getElem_cons_succ, List.getElem_cons_zero, List.setIfInBounds_toArray, List.set_cons_zero, List.set_cons_succ]
          refine anyT_take0 (i := 5) (v := ?_) rfl (by kernel_rfl) (by kernel_rfl) (by kernel_rfl) (by kernel_rfl) (by kernel_rfl) (fun _ _ _ h => h) hC (.inl ⟨by rfl, fun _ _ => ?_⟩) ?_
          rotate_left 1
          · go_simp
            try with_reducible rfl
          simp only [Act.put, List.getElem_toArray, List.getElem_cons_succ, List.getElem_cons_zero, List.setIfInBounds_toArray, List.set_cons_zero, List.set_cons_succ]
          refine anyT_take0 (i := 6) (v := ?_) rfl (by kernel_rfl) (by kernel_rfl) (by kernel_rfl) (by kernel_rfl) (by kernel_rfl) (fun _ _ _ h => h) hC (.inl ⟨by rfl, fun _ _ => ?_⟩) ?_
          rotate_left 1
          · go_simp
            try with_reducible rfl
          simp only [Act.put, List.getElem_toArray, List.getElem_cons_succ, List.getElem_cons_zero, List.setIfInBounds_toArray, List.set_cons_zero, List.set_cons_succ]
          refine anyT_take0 (i := 7) (v := ?_) rfl (by kernel_rfl) (by kernel_rfl) (by kernel_rfl) (by kernel_rfl) (by kernel_rfl) (fun _ _ _ h => h) hC (.inl ⟨by rfl, fun _ _ => ?_⟩) ?_
          rotate_left 1
          · go_simp
            try with_reducible rfl
          simp only [Act.put, List.getElem_toArray, List.getElem_cons_succ, List.getElem_cons_zero, List.setIfInBounds_toArray, List.set_cons_zero, List.set_cons_succ]
          refine anyT_tail (k := 8) (by rfl) (by kernel_rfl) (by simp) rfl rfl (by kernel_rfl) ?_
          have hkd : Keeps (fun _ => False) w6 w6.drew := (Keeps.refl _ _).drew
          obtain ⟨q1, q2, -⟩ := cuts (BRd.keeps HD6.out hkd) hDl
          have hdl : (D.take N).length ≤ 9000000 := by rw [List.length_take]; omega
          have HDF := Lib.hid hDF
          clear hDF hC
          generalize D.take N = DT at *
          generalize D.drop N = DD at *
          go_wp2_with fail
          refine (HT1.out _ _ _ q2 hdl (HT.out.keeps (HK6.out.trans hkd (fun _ _ h => h)))).mono ?_
          rintro e w7 ⟨v7, rfl, ho7, hk7⟩
          generalize tagS ⟨spi, key, salt, mac, esn, window⟩ s DT = TD at *
          have hk67 := hkd.trans hk7 (fun _ _ h => h)
          have HSM := Lib.hid (same_any _ _ _ _ w7 _ _ (BRd.keeps q1 hk7) ho7.bat)
          obtain ⟨a7, c7, rfl, -, -⟩ := ho7.slice
          have HK7 := Lib.hid (HK6.out.trans hk67 (fun _ _ h => h))
          have HR7 := Lib.hid (HR6.out.keeps hk67 (fun h => h))
          have hFb : F = 0 → decide (DD = TD) = true := fun h => decide_eq_true (HDF.out h)
          generalize decide (DD = TD) = hb at *
          clear ho7 hk7 hk67 q1 q2 hkd HR6 HK6 HD6 HDF hdl
          go_wp2_with fail
          refine HSM.out.mono ?_
          rintro e w8 ⟨rfl, rfl⟩
          clear HSM
          by_cases hF : F = 0
          · have hb1 := hFb hF
            subst hF hb1
            clear hFb
            have d0 := (HR7.out).cell 0
            have d1 := (HR7.out).cell 1
            have d2 := (HR7.out).cell 2
            have d3 := (HR7.out).cell 3
            have d4 := (HR7.out).cell 4
            have d5 := (HR7.out).cell 5
            go_wp2_with fail
            rw [show IntKind.u64.wrap (z + 4294967296 * (mI % 1000)) = oI by rw [u64_wrap]; exact HOZ.out.symm]
            have hO2 := HO2.out w7 _ (BRd.keeps HB.out HK7.out) (HT.out.keeps HK7.out)
            have hDF := HDD.out.2
            generalize (openS ⟨spi, key, salt, mac, esn, window⟩ o b) = OG at *
            obtain ⟨G, Gd, Gx⟩ := OG
            simp only at hO2 hDF
            refine hO2.mono ?_
            rintro e w8 ⟨v8, rfl, -, hk8⟩
            have HK8 := Lib.hid (HK7.out.trans hk8 (fun _ _ h => h))
            have HR8 := Lib.hid (HR7.out.keeps hk8 (fun h => h))
            clear hk8 hO2 HK7 HR7 d0 d1 d2 d3 d4 d5
            go_wp2
            refine region_T [8] (boxC w.heap.size spi key salt mac esn window) (by kernel_rfl) ?_
            have hC : boxC w.heap.size spi key salt mac esn window w8.drew := boxC_of HR8.out
            refine anyT_take0 (i := 0) (v := ?_) rfl (by kernel_rfl) (by kernel_rfl) (by kernel_rfl) (by kernel_rfl) (by kernel_rfl) (fun _ _ _ h => h) hC (.inl ⟨by rfl, fun _ _ => ?_⟩) ?_
            rotate_left 1
            · go_simp
              try with_reducible rfl
            simp only [Act.put, List.getElem_toArray, List.getElem_cons_succ, List.getElem_cons_zero, List.setIfInBounds_toArray, List.set_cons_zero, List.set_cons_succ]
            refine anyT_take0 (i := 1) (v := ?_) rfl (by kernel_rfl) (by kernel_rfl) (by kernel_rfl) (by kernel_rfl) (by kernel_rfl) (fun _ _ _ h => h) hC (.inl ⟨by rfl, fun _ _ => ?_⟩) ?_
            rotate_left 1
            · go_simp
              try with_reducible rfl
            simp only [Act.put, List.getElem_toArray, List.getElem_cons_succ, List.getElem_cons_zero, List.setIfInBounds_toArray, List.set_cons_zero, List.set_cons_succ]
            refine anyT_take0 (i := 2) (v := ?_) rfl (by kernel_rfl) (by kernel_rfl) (by kernel_rfl) (by kernel_rfl) (by kernel_rfl) (fun _ _ _ h => h) hC (.inl ⟨by rfl, fun _ _ => ?_⟩) ?_
            rotate_left 1
            · go_simp
              try with_reducible rfl
            simp only [Act.put, List.getElem_toArray, List.getElem_cons_succ, List.getElem_cons_zero, List.setIfInBounds_toArray, List.set_cons_zero, List.set_cons_succ]
            refine anyT_takeC (i := 3) (v := ?_) rfl (by kernel_rfl) (by kernel_rfl) (by kernel_rfl) (by kernel_rfl) (by kernel_rfl) (by kernel_rfl) (fun _ _ _ h => h) hC (.inl ⟨by rfl, fun w hCw => ?_⟩) ?_
            rotate_left 1
            · obtain ⟨b0, b1, b2, b3, b4, b5⟩ := hCw
              go_simp
              try with_reducible rfl
            simp only [Act.put, List.getElem_toArray, List.getElem_cons_succ, List.getElem_cons_zero, List.setIfInBounds_toArray, List.set_cons_zero, List.set_cons_succ]
            refine anyT_take0 (i := 4) (v := ?_) rfl (by kernel_rfl) (by kernel_rfl) (by kernel_rfl) (by kernel_rfl) (by kernel_rfl) (fun _ _ _ h => h) hC (.inl ⟨by rfl, fun _ _ => ?_⟩) ?_
            rotate_left 1
            · go_simp
              try with_reducible rfl
            simp only [Act.put, List.getElem_toArray, List.getElem_cons_succ, List.getElem_cons_zero, List.setIfInBounds_toArray, List.set_cons_zero, List.set_cons_succ]
            refine anyT_take0 (i := 5) (v := ?_) rfl (by kernel_rfl) (by kernel_rfl) (by kernel_rfl) (by kernel_rfl) (by kernel_rfl) (fun _ _ _ h => h) hC (.inl ⟨by rfl, fun _ _ => ?_⟩) ?_
            rotate_left 1
            · go_simp
              try with_reducible rfl
            simp only [Act.put, List.getElem_toArray, List.getElem_cons_succ, List.getElem_cons_zero, List.setIfInBounds_toArray, List.set_cons_zero, List.set_cons_succ]
            refine anyT_take0 (i := 6) (v := ?_) rfl (by kernel_rfl) (by kernel_rfl) (by kernel_rfl) (by kernel_rfl) (by kernel_rfl) (fun _ _ _ h => h) hC (.inl ⟨by rfl, fun _ _ => ?_⟩) ?_
            rotate_left 1
            · go_simp
              try with_reducible rfl
            simp only [Act.put, List.getElem_toArray, List.getElem_cons_succ, List.getElem_cons_zero, List.setIfInBounds_toArray, List.set_cons_zero, List.set_cons_succ]
            refine anyT_take0 (i := 7) (v := ?_) rfl (by kernel_rfl) (by kernel_rfl) (by kernel_rfl) (by kernel_rfl) (by kernel_rfl) (fun _ _ _ h => h) hC (.inl ⟨by rfl, fun _ _ => ?_⟩) ?_
            rotate_left 1
            · go_simp
              try with_reducible rfl
            simp only [Act.put, List.getElem_toArray, List.getElem_cons_succ, List.getElem_cons_zero, List.setIfInBounds_toArray, List.set_cons_zero, List.set_cons_succ]
            refine anyT_tail (k := 8) (by rfl) (by kernel_rfl) (by simp) rfl rfl (by kernel_rfl) ?_
            have hkd : Keeps (fun _ => False) w w8.drew := HK8.out.drew
            obtain ⟨q1, q2, -⟩ := cuts (BRd.keeps HB.out hkd) HN.out
            have hdl : (b.take N).length ≤ 9000000 := by rw [List.length_take]; omega
            have HDF := Lib.hid hDF
            clear hDF hC
            generalize b.take N = BT at *
            generalize b.drop N = BD at *
            go_wp2_with fail
            refine (HT2.out _ _ _ q2 hdl (HT.out.keeps hkd)).mono ?_
            rintro e w9 ⟨v9, rfl, ho9, hk9⟩
            generalize tagS ⟨spi, key, salt, mac, esn, window⟩ o BT = TB at *
            have HSM := Lib.hid (same_any _ _ _ _ w9 _ _ (BRd.keeps q1 hk9) ho9.bat)
            obtain ⟨a9, c9, rfl, -, -⟩ := ho9.slice
            have HK9 := Lib.hid (hkd.trans hk9 (fun _ _ h => h))
            have hFc : G = 0 → decide (BD = TB) = true := fun h => decide_eq_true (HDF.out h)
            generalize decide (BD = TB) = hc at *
            clear ho9 hk9 q1 q2 hkd HR8 HK8 HDF hdl
            go_wp2_with fail
            refine HSM.out.mono ?_
            rintro e w10 ⟨rfl, rfl⟩
            clear HSM
            go_wp2_with fail
            refine (HAW.out _ (HT.out.keeps HK9.out)).mono ?_
            rintro e w11 ⟨rfl, hk11⟩
            have HK11 := Lib.hid (HK9.out.trans hk11 (fun _ _ h => h))
            clear hk11
            by_cases hG : G = 0
            · have hc1 := hFc hG
              subst hG hc1
              go_wp2
              go_ret
              exact ⟨rfl, HK11.out⟩
            · clear hFc
              go_wp2
              go_ret
              exact ⟨rfl, HK11.out⟩
          · clear hFb
            have d0 := (HR7.out).cell 0
            have d1 := (HR7.out).cell 1
            have d2 := (HR7.out).cell 2
            have d3 := (HR7.out).cell 3
            have d4 := (HR7.out).cell 4
            have d5 := (HR7.out).cell 5
            go_wp2_with fail
            rw [show IntKind.u64.wrap (z + 4294967296 * (mI % 1000)) = oI by rw [u64_wrap]; exact HOZ.out.symm]
            have hO2 := HO2.out w7 _ (BRd.keeps HB.out HK7.out) (HT.out.keeps HK7.out)
            have hDF := HDD.out.2
            generalize (openS ⟨spi, key, salt, mac, esn, window⟩ o b) = OG at *
            obtain ⟨G, Gd, Gx⟩ := OG
            simp only at hO2 hDF
            refine hO2.mono ?_
            rintro e w8 ⟨v8, rfl, -, hk8⟩
            have HK8 := Lib.hid (HK7.out.trans hk8 (fun _ _ h => h))
            have HR8 := Lib.hid (HR7.out.keeps hk8 (fun h => h))
            clear hk8 hO2 HK7 HR7 d0 d1 d2 d3 d4 d5
            go_wp2
            refine region_T [8] (boxC w.heap.size spi key salt mac esn window) (by kernel_rfl) ?_
            have hC : boxC w.heap.size spi key salt mac esn window w8.drew := boxC_of HR8.out
            refine anyT_take0 (i := 0) (v := ?_) rfl (by kernel_rfl) (by kernel_rfl) (by kernel_rfl) (by kernel_rfl) (by kernel_rfl) (fun _ _ _ h => h) hC (.inl ⟨by rfl, fun _ _ => ?_⟩) ?_
            rotate_left 1
            · go_simp
              try with_reducible rfl
            simp only [Act.put, List.getElem_toArray, List.getElem_cons_succ, List.getElem_cons_zero, List.setIfInBounds_toArray, List.set_cons_zero, List.set_cons_succ]
            refine anyT_take0 (i := 1) (v := ?_) rfl (by kernel_rfl) (by kernel_rfl) (by kernel_rfl) (by kernel_rfl) (by kernel_rfl) (fun _ _ _ h => h) hC (.inl ⟨by rfl, fun _ _ => ?_⟩) ?_
            rotate_left 1
            · go_simp
              try with_reducible rfl
            simp only [Act.put, List.getElem_toArray, List.getElem_cons_succ, List.getElem_cons_zero, List.setIfInBounds_toArray, List.set_cons_zero, List.set_cons_succ]
            refine anyT_take0 (i := 2) (v := ?_) rfl (by kernel_rfl) (by kernel_rfl) (by kernel_rfl) (by kernel_rfl) (by kernel_rfl) (fun _ _ _ h => h) hC (.inl ⟨by rfl, fun _ _ => ?_⟩) ?_
            rotate_left 1
            · go_simp
              try with_reducible rfl
            simp only [Act.put, List.getElem_toArray, List.getElem_cons_succ, List.getElem_cons_zero, List.setIfInBounds_toArray, List.set_cons_zero, List.set_cons_succ]
            refine anyT_takeC (i := 3) (v := ?_) rfl (by kernel_rfl) (by kernel_rfl) (by kernel_rfl) (by kernel_rfl) (by kernel_rfl) (by kernel_rfl) (fun _ _ _ h => h) hC (.inl ⟨by rfl, fun w hCw => ?_⟩) ?_
            rotate_left 1
            · obtain ⟨b0, b1, b2, b3, b4, b5⟩ := hCw
              go_simp
              try with_reducible rfl
            simp only [Act.put, List.getElem_toArray, List.getElem_cons_succ, List.getElem_cons_zero, List.setIfInBounds_toArray, List.set_cons_zero, List.set_cons_succ]
            refine anyT_take0 (i := 4) (v := ?_) rfl (by kernel_rfl) (by kernel_rfl) (by kernel_rfl) (by kernel_rfl) (by kernel_rfl) (fun _ _ _ h => h) hC (.inl ⟨by rfl, fun _ _ => ?_⟩) ?_
            rotate_left 1
            · go_simp
              try with_reducible rfl
            simp only [Act.put, List.getElem_toArray, List.getElem_cons_succ, List.getElem_cons_zero, List.setIfInBounds_toArray, List.set_cons_zero, List.set_cons_succ]
            refine anyT_take0 (i := 5) (v := ?_) rfl (by kernel_rfl) (by kernel_rfl) (by kernel_rfl) (by kernel_rfl) (by kernel_rfl) (fun _ _ _ h => h) hC (.inl ⟨by rfl, fun _ _ => ?_⟩) ?_
            rotate_left 1
            · go_simp
              try with_reducible rfl
            simp only [Act.put, List.getElem_toArray, List.getElem_cons_succ, List.getElem_cons_zero, List.setIfInBounds_toArray, List.set_cons_zero, List.set_cons_succ]
            refine anyT_take0 (i := 6) (v := ?_) rfl (by kernel_rfl) (by kernel_rfl) (by kernel_rfl) (by kernel_rfl) (by kernel_rfl) (fun _ _ _ h => h) hC (.inl ⟨by rfl, fun _ _ => ?_⟩) ?_
            rotate_left 1
            · go_simp
              try with_reducible rfl
            simp only [Act.put, List.getElem_toArray, List.getElem_cons_succ, List.getElem_cons_zero, List.setIfInBounds_toArray, List.set_cons_zero, List.set_cons_succ]
            refine anyT_take0 (i := 7) (v := ?_) rfl (by kernel_rfl) (by kernel_rfl) (by kernel_rfl) (by kernel_rfl) (by kernel_rfl) (fun _ _ _ h => h) hC (.inl ⟨by rfl, fun _ _ => ?_⟩) ?_
            rotate_left 1
            · go_simp
              try with_reducible rfl
            simp only [Act.put, List.getElem_toArray, List.getElem_cons_succ, List.getElem_cons_zero, List.setIfInBounds_toArray, List.set_cons_zero, List.set_cons_succ]
            refine anyT_tail (k := 8) (by rfl) (by kernel_rfl) (by simp) rfl rfl (by kernel_rfl) ?_
            have hkd : Keeps (fun _ => False) w w8.drew := HK8.out.drew
            obtain ⟨q1, q2, -⟩ := cuts (BRd.keeps HB.out hkd) HN.out
            have hdl : (b.take N).length ≤ 9000000 := by rw [List.length_take]; omega
            have HDF := Lib.hid hDF
            clear hDF hC
            generalize b.take N = BT at *
            generalize b.drop N = BD at *
            go_wp2_with fail
            refine (HT2.out _ _ _ q2 hdl (HT.out.keeps hkd)).mono ?_
            rintro e w9 ⟨v9, rfl, ho9, hk9⟩
            generalize tagS ⟨spi, key, salt, mac, esn, window⟩ o BT = TB at *
            have HSM := Lib.hid (same_any _ _ _ _ w9 _ _ (BRd.keeps q1 hk9) ho9.bat)
            obtain ⟨a9, c9, rfl, -, -⟩ := ho9.slice
            have HK9 := Lib.hid (hkd.trans hk9 (fun _ _ h => h))
            have hFc : G = 0 → decide (BD = TB) = true := fun h => decide_eq_true (HDF.out h)
            generalize decide (BD = TB) = hc at *
            clear ho9 hk9 q1 q2 hkd HR8 HK8 HDF hdl
            go_wp2_with fail
            refine HSM.out.mono ?_
            rintro e w10 ⟨rfl, rfl⟩
            clear HSM
            go_wp2_with fail
            refine (HAW.out _ (HT.out.keeps HK9.out)).mono ?_
            rintro e w11 ⟨rfl, hk11⟩
            have HK11 := Lib.hid (HK9.out.trans hk11 (fun _ _ h => h))
            clear hk11
            by_cases hG : G = 0
            · have hc1 := hFc hG
              subst hG hc1
              go_wp2
              go_ret
              exact ⟨rfl, HK11.out⟩
            · clear hFc
              go_wp2
              go_ret
              exact ⟨rfl, HK11.out⟩
        · have d0 := (HR5.out).cell 0
          have d1 := (HR5.out).cell 1
          have d2 := (HR5.out).cell 2
          have d3 := (HR5.out).cell 3
          have d4 := (HR5.out).cell 4
          have d5 := (HR5.out).cell 5
          go_wp2_with fail
          clear d0 d1 d2 d3 d4 d5 hat1 hat2
          have HKW := HK5
          have HRW := HR5
          clear HK5 HR5
          generalize w5 = W at *
          obtain ⟨D, hDb⟩ : ∃ D, b = D := ⟨_, rfl⟩
          rw [hDb] at HD hDl
          clear hDb
          have hOD := HOD.out W _ D HD.out hDl (HT.out.keeps HKW.out)
          have hDF := HDD.out.1 D hDl
          generalize (openS ⟨spi, key, salt, mac, esn, window⟩ s D) = OD at *
          obtain ⟨F, Fd, Fx⟩ := OD
          simp only at hOD hDF
          refine hOD.mono ?_
          rintro e w6 ⟨v6, rfl, -, hk6⟩
          have HK6 := Lib.hid (HKW.out.trans hk6 (fun _ _ h => h))
          have HR6 := Lib.hid (HRW.out.keeps hk6 (fun h => h))
          have HD6 := Lib.hid (BRd.keeps HD.out hk6)
          clear hk6 hOD HKW HRW HD W
          have hcN5 : ¬ c5 = N := by omega
          go_wp2
          refine region_T [8] (boxC w.heap.size spi key salt mac esn window) (by kernel_rfl) ?_
          have hC : boxC w.heap.size spi key salt mac esn window w6.drew := boxC_of HR6.out
          refine anyT_take0 (i := 0) (v := ?_) rfl (by kernel_rfl) (by kernel_rfl) (by kernel_rfl) (by kernel_rfl) (by kernel_rfl) (fun _ _ _ h => h) hC (.inl ⟨by rfl, fun _ _ => ?_⟩) ?_
          rotate_left 1
          · go_simp
            try with_reducible rfl
          simp only [Act.put, List.getElem_toArray, List.getElem_cons_succ, List.getElem_cons_zero, List.setIfInBounds_toArray, List.set_cons_zero, List.set_cons_succ]
          refine anyT_take0 (i := 1) (v := ?_) rfl (by kernel_rfl) (by kernel_rfl) (by kernel_rfl) (by kernel_rfl) (by kernel_rfl) (fun _ _ _ h => h) hC (.inl ⟨by rfl, fun _ _ => ?_⟩) ?_
          rotate_left 1
          · go_simp
            try with_reducible rfl
          simp only [Act.put, List.getElem_toArray, List.getElem_cons_succ, List.getElem_cons_zero, List.setIfInBounds_toArray, List.set_cons_zero, List.set_cons_succ]
          refine anyT_take0 (i := 2) (v := ?_) rfl (by kernel_rfl) (by kernel_rfl) (by kernel_rfl) (by kernel_rfl) (by kernel_rfl) (fun _ _ _ h => h) hC (.inl ⟨by rfl, fun _ _ => ?_⟩) ?_
          rotate_left 1
          · go_simp
            try with_reducible rfl
          simp only [Act.put, List.getElem_toArray, List.getElem_cons_succ, List.getElem_cons_zero, List.setIfInBounds_toArray, List.set_cons_zero, List.set_cons_succ]
          refine anyT_takeC (i := 3) (v := ?_) rfl (by kernel_rfl) (by kernel_rfl) (by kernel_rfl) (by kernel_rfl) (by kernel_rfl) (by kernel_rfl) (fun _ _ _ h => h) hC (.inl ⟨by rfl, fun w hCw => ?_⟩) ?_
          rotate_left 1
          · obtain ⟨b0, b1, b2, b3, b4, b5⟩ := hCw
            go_simp
            try with_reducible rfl
          simp only [Act.put, List.getElem_toArray, List.getElem_cons_succ, List.getElem_cons_zero, List.setIfInBounds_toArray, List.set_cons_zero, List.set_cons_succ]
          refine anyT_take0 (i := 4) (v := ?_) rfl (by kernel_rfl) (by kernel_rfl) (by kernel_rfl) (by kernel_rfl) (by kernel_rfl) (fun _ _ _ h => h) hC (.inl ⟨by rfl, fun _ _ => ?_⟩) ?_
          rotate_left 1
          · go_simp
            try with_reducible rfl
          simp only [Act.put, List.getElem_toArray, List.getElem_cons_succ, List.getElem_cons_zero, List.setIfInBounds_toArray, List.set_cons_zero, List.set_cons_succ]
          refine anyT_take0 (i := 5) (v := ?_) rfl (by kernel_rfl) (by kernel_rfl) (by kernel_rfl) (by kernel_rfl) (by kernel_rfl) (fun _ _ _ h => h) hC (.inl ⟨by rfl, fun _ _ => ?_⟩) ?_
          rotate_left 1
          · go_simp
            try with_reducible rfl
          simp only [Act.put, List.getElem_toArray, List.getElem_cons_succ, List.getElem_cons_zero, List.setIfInBounds_toArray, List.set_cons_zero, List.set_cons_succ]
          refine anyT_take0 (i := 6) (v := ?_) rfl (by kernel_rfl) (by kernel_rfl) (by kernel_rfl) (by kernel_rfl) (by kernel_rfl) (fun _ _ _ h => h) hC (.inl ⟨by rfl, fun _ _ => ?_⟩) ?_
          rotate_left 1
          · go_simp
            try with_reducible rfl
          simp only [Act.put, List.getElem_toArray, List.getElem_cons_succ, List.getElem_cons_zero, List.setIfInBounds_toArray, List.set_cons_zero, List.set_cons_succ]
          refine anyT_take0 (i := 7) (v := ?_) rfl (by kernel_rfl) (by kernel_rfl) (by kernel_rfl) (by kernel_rfl) (by kernel_rfl) (fun _ _ _ h => h) hC (.inl ⟨by rfl, fun _ _ => ?_⟩) ?_
          rotate_left 1
          · go_simp
            try with_reducible rfl
          simp only [Act.put, List.getElem_toArray, List.getElem_cons_succ, List.getElem_cons_zero, List.setIfInBounds_toArray, List.set_cons_zero, List.set_cons_succ]
          refine anyT_tail (k := 8) (by rfl) (by kernel_rfl) (by simp) rfl rfl (by kernel_rfl) ?_
          have hkd : Keeps (fun _ => False) w6 w6.drew := (Keeps.refl _ _).drew
          obtain ⟨q1, q2, -⟩ := cuts (BRd.keeps HD6.out hkd) hDl
          have hdl : (D.take N).length ≤ 9000000 := by rw [List.length_take]; omega
          have HDF := Lib.hid hDF
          clear hDF hC
          generalize D.take N = DT at *
          generalize D.drop N = DD at *
          go_wp2_with fail
          refine (HT1.out _ _ _ q2 hdl (HT.out.keeps (HK6.out.trans hkd (fun _ _ h => h)))).mono ?_
          rintro e w7 ⟨v7, rfl, ho7, hk7⟩
          generalize tagS ⟨spi, key, salt, mac, esn, window⟩ s DT = TD at *
          have hk67 := hkd.trans hk7 (fun _ _ h => h)
          have HSM := Lib.hid (same_any _ _ _ _ w7 _ _ (BRd.keeps q1 hk7) ho7.bat)
          obtain ⟨a7, c7, rfl, -, -⟩ := ho7.slice
          have HK7 := Lib.hid (HK6.out.trans hk67 (fun _ _ h => h))
          have HR7 := Lib.hid (HR6.out.keeps hk67 (fun h => h))
          have hFb : F = 0 → decide (DD = TD) = true := fun h => decide_eq_true (HDF.out h)
          generalize decide (DD = TD) = hb at *
          clear ho7 hk7 hk67 q1 q2 hkd HR6 HK6 HD6 HDF hdl
          go_wp2_with fail
          refine HSM.out.mono ?_
          rintro e w8 ⟨rfl, rfl⟩
          clear HSM
          by_cases hF : F = 0
          · have hb1 := hFb hF
            subst hF hb1
            clear hFb
            have d0 := (HR7.out).cell 0
            have d1 := (HR7.out).cell 1
            have d2 := (HR7.out).cell 2
            have d3 := (HR7.out).cell 3
            have d4 := (HR7.out).cell 4
            have d5 := (HR7.out).cell 5
            go_wp2_with fail
            rw [show IntKind.u64.wrap (z + 4294967296 * (mI % 1000)) = oI by rw [u64_wrap]; exact HOZ.out.symm]
            have hO2 := HO2.out w7 _ (BRd.keeps HB.out HK7.out) (HT.out.keeps HK7.out)
            have hDF := HDD.out.2
            generalize (openS ⟨spi, key, salt, mac, esn, window⟩ o b) = OG at *
            obtain ⟨G, Gd, Gx⟩ := OG
            simp only at hO2 hDF
            refine hO2.mono ?_
            rintro e w8 ⟨v8, rfl, -, hk8⟩
            have HK8 := Lib.hid (HK7.out.trans hk8 (fun _ _ h => h))
            have HR8 := Lib.hid (HR7.out.keeps hk8 (fun h => h))
            clear hk8 hO2 HK7 HR7 d0 d1 d2 d3 d4 d5
            go_wp2
            refine region_T [8] (boxC w.heap.size spi key salt mac esn window) (by kernel_rfl) ?_
            have hC : boxC w.heap.size spi key salt mac esn window w8.drew := boxC_of HR8.out
            refine anyT_take0 (i := 0) (v := ?_) rfl (by kernel_rfl) (by kernel_rfl) (by kernel_rfl) (by kernel_rfl) (by kernel_rfl) (fun _ _ _ h => h) hC (.inl ⟨by rfl, fun _ _ => ?_⟩) ?_
            rotate_left 1
            · go_simp
              try with_reducible rfl
            simp only [Act.put, List.getElem_toArray, List.getElem_cons_succ, List.getElem_cons_zero, List.setIfInBounds_toArray, List.set_cons_zero, List.set_cons_succ]
            refine anyT_take0 (i := 1) (v := ?_) rfl (by kernel_rfl) (by kernel_rfl) (by kernel_rfl) (by kernel_rfl) (by kernel_rfl) (fun _ _ _ h => h) hC (.inl ⟨by rfl, fun _ _ => ?_⟩) ?_
            rotate_left 1
            · go_simp
              try with_reducible rfl
            simp only [Act.put, List.getElem_toArray, List.getElem_cons_succ, List.getElem_cons_zero, List.setIfInBounds_toArray, List.set_cons_zero, List.set_cons_succ]
            refine anyT_take0 (i := 2) (v := ?_) rfl (by kernel_rfl) (by kernel_rfl) (by kernel_rfl) (by kernel_rfl) (by kernel_rfl) (fun _ _ _ h => h) hC (.inl ⟨by rfl, fun _ _ => ?_⟩) ?_
            rotate_left 1
            · go_simp
              try with_reducible rfl
            simp only [Act.put, List.getElem_toArray, List.getElem_cons_succ, List.getElem_cons_zero, List.setIfInBounds_toArray, List.set_cons_zero, List.set_cons_succ]
            refine anyT_takeC (i := 3) (v := ?_) rfl (by kernel_rfl) (by kernel_rfl) (by kernel_rfl) (by kernel_rfl) (by kernel_rfl) (by kernel_rfl) (fun _ _ _ h => h) hC (.inl ⟨by rfl, fun w hCw => ?_⟩) ?_
            rotate_left 1
            · obtain ⟨b0, b1, b2, b3, b4, b5⟩ := hCw
              go_simp
              try with_reducible rfl
            simp only [Act.put, List.getElem_toArray, List.getElem_cons_succ, List.getElem_cons_zero, List.setIfInBounds_toArray, List.set_cons_zero, List.set_cons_succ]
            refine anyT_take0 (i := 4) (v := ?_) rfl (by kernel_rfl) (by kernel_rfl) (by kernel_rfl) (by kernel_rfl) (by kernel_rfl) (fun _ _ _ h => h) hC (.inl ⟨by rfl, fun _ _ => ?_⟩) ?_
            rotate_left 1
            · go_simp
              try with_reducible rfl
            simp only [Act.put, List.getElem_toArray, List.getElem_cons_succ, List.getElem_cons_zero, List.setIfInBounds_toArray, List.set_cons_zero, List.set_cons_succ]
            refine anyT_take0 (i := 5) (v := ?_) rfl (by kernel_rfl) (by kernel_rfl) (by kernel_rfl) (by kernel_rfl) (by kernel_rfl) (fun _ _ _ h => h) hC (.inl ⟨by rfl, fun _ _ => ?_⟩) ?_
            rotate_left 1
            · go_simp
              try with_reducible rfl
            simp only [Act.put, List.getElem_toArray, List.getElem_cons_succ, List.getElem_cons_zero, List.setIfInBounds_toArray, List.set_cons_zero, List.set_cons_succ]
            refine anyT_take0 (i := 6) (v := ?_) rfl (by kernel_rfl) (by kernel_rfl) (by kernel_rfl) (by kernel_rfl) (by kernel_rfl) (fun _ _ _ h => h) hC (.inl ⟨by rfl, fun _ _ => ?_⟩) ?_
            rotate_left 1
            · go_simp
              try with_reducible rfl
            simp only [Act.put, List.getElem_toArray, List.getElem_cons_succ, List.getElem_cons_zero, List.setIfInBounds_toArray, List.set_cons_zero, List.set_cons_succ]
            refine anyT_take0 (i := 7) (v := ?_) rfl (by kernel_rfl) (by kernel_rfl) (by kernel_rfl) (by kernel_rfl) (by kernel_rfl) (fun _ _ _ h => h) hC (.inl ⟨by rfl, fun _ _ => ?_⟩) ?_
            rotate_left 1
            · go_simp
              try with_reducible rfl
            simp only [Act.put, List.getElem_toArray, List.getElem_cons_succ, List.getElem_cons_zero, List.setIfInBounds_toArray, List.set_cons_zero, List.set_cons_succ]
            refine anyT_tail (k := 8) (by rfl) (by kernel_rfl) (by simp) rfl rfl (by kernel_rfl) ?_
            have hkd : Keeps (fun _ => False) w w8.drew := HK8.out.drew
            obtain ⟨q1, q2, -⟩ := cuts (BRd.keeps HB.out hkd) HN.out
            have hdl : (b.take N).length ≤ 9000000 := by rw [List.length_take]; omega
            have HDF := Lib.hid hDF
            clear hDF hC
            generalize b.take N = BT at *
            generalize b.drop N = BD at *
            go_wp2_with fail
            refine (HT2.out _ _ _ q2 hdl (HT.out.keeps hkd)).mono ?_
            rintro e w9 ⟨v9, rfl, ho9, hk9⟩
            generalize tagS ⟨spi, key, salt, mac, esn, window⟩ o BT = TB at *
            have HSM := Lib.hid (same_any _ _ _ _ w9 _ _ (BRd.keeps q1 hk9) ho9.bat)
            obtain ⟨a9, c9, rfl, -, -⟩ := ho9.slice
            have HK9 := Lib.hid (hkd.trans hk9 (fun _ _ h => h))
            have hFc : G = 0 → decide (BD = TB) = true := fun h => decide_eq_true (HDF.out h)
            generalize decide (BD = TB) = hc at *
            clear ho9 hk9 q1 q2 hkd HR8 HK8 HDF hdl
            go_wp2_with fail
            refine HSM.out.mono ?_
            rintro e w10 ⟨rfl, rfl⟩
            clear HSM
            go_wp2_with fail
            refine (HAW.out _ (HT.out.keeps HK9.out)).mono ?_
            rintro e w11 ⟨rfl, hk11⟩
            have HK11 := Lib.hid (HK9.out.trans hk11 (fun _ _ h => h))
            clear hk11
            by_cases hG : G = 0
            · have hc1 := hFc hG
              subst hG hc1
              go_wp2
              go_ret
              exact ⟨rfl, HK11.out⟩
            · clear hFc
              go_wp2
              go_ret
              exact ⟨rfl, HK11.out⟩
          · clear hFb
            have d0 := (HR7.out).cell 0
            have d1 := (HR7.out).cell 1
            have d2 := (HR7.out).cell 2
            have d3 := (HR7.out).cell 3
            have d4 := (HR7.out).cell 4
            have d5 := (HR7.out).cell 5
            go_wp2_with fail
            rw [show IntKind.u64.wrap (z + 4294967296 * (mI % 1000)) = oI by rw [u64_wrap]; exact HOZ.out.symm]
            have hO2 := HO2.out w7 _ (BRd.keeps HB.out HK7.out) (HT.out.keeps HK7.out)
            have hDF := HDD.out.2
            generalize (openS ⟨spi, key, salt, mac, esn, window⟩ o b) = OG at *
            obtain ⟨G, Gd, Gx⟩ := OG
            simp only at hO2 hDF
            refine hO2.mono ?_
            rintro e w8 ⟨v8, rfl, -, hk8⟩
            have HK8 := Lib.hid (HK7.out.trans hk8 (fun _ _ h => h))
            have HR8 := Lib.hid (HR7.out.keeps hk8 (fun h => h))
            clear hk8 hO2 HK7 HR7 d0 d1 d2 d3 d4 d5
            go_wp2
            refine region_T [8] (boxC w.heap.size spi key salt mac esn window) (by kernel_rfl) ?_
            have hC : boxC w.heap.size spi key salt mac esn window w8.drew := boxC_of HR8.out
            refine anyT_take0 (i := 0) (v := ?_) rfl (by kernel_rfl) (by kernel_rfl) (by kernel_rfl) (by kernel_rfl) (by kernel_rfl) (fun _ _ _ h => h) hC (.inl ⟨by rfl, fun _ _ => ?_⟩) ?_
            rotate_left 1
            · go_simp
              try with_reducible rfl
            simp only [Act.put, List.getElem_toArray, List.getElem_cons_succ, List.getElem_cons_zero, List.setIfInBounds_toArray, List.set_cons_zero, List.set_cons_succ]
            refine anyT_take0 (i := 1) (v := ?_) rfl (by kernel_rfl) (by kernel_rfl) (by kernel_rfl) (by kernel_rfl) (by kernel_rfl) (fun _ _ _ h => h) hC (.inl ⟨by rfl, fun _ _ => ?_⟩) ?_
            rotate_left 1
            · go_simp
              try with_reducible rfl
            simp only [Act.put, List.getElem_toArray, List.getElem_cons_succ, List.getElem_cons_zero, List.setIfInBounds_toArray, List.set_cons_zero, List.set_cons_succ]
            refine anyT_take0 (i := 2) (v := ?_) rfl (by kernel_rfl) (by kernel_rfl) (by kernel_rfl) (by kernel_rfl) (by kernel_rfl) (fun _ _ _ h => h) hC (.inl ⟨by rfl, fun _ _ => ?_⟩) ?_
            rotate_left 1
            · go_simp
              try with_reducible rfl
            simp only [Act.put, List.getElem_toArray, List.getElem_cons_succ, List.getElem_cons_zero, List.setIfInBounds_toArray, List.set_cons_zero, List.set_cons_succ]
            refine anyT_takeC (i := 3) (v := ?_) rfl (by kernel_rfl) (by kernel_rfl) (by kernel_rfl) (by kernel_rfl) (by kernel_rfl) (by kernel_rfl) (fun _ _ _ h => h) hC (.inl ⟨by rfl, fun w hCw => ?_⟩) ?_
            rotate_left 1
            · obtain ⟨b0, b1, b2, b3, b4, b5⟩ := hCw
              go_simp
              try with_reducible rfl
            simp only [Act.put, List.getElem_toArray, List.getElem_cons_succ, List.getElem_cons_zero, List.setIfInBounds_toArray, List.set_cons_zero, List.set_cons_succ]
            refine anyT_take0 (i := 4) (v := ?_) rfl (by kernel_rfl) (by kernel_rfl) (by kernel_rfl) (by kernel_rfl) (by kernel_rfl) (fun _ _ _ h => h) hC (.inl ⟨by rfl, fun _ _ => ?_⟩) ?_
            rotate_left 1
            · go_simp
              try with_reducible rfl
            simp only [Act.put, List.getElem_toArray, List.getElem_cons_succ, List.getElem_cons_zero, List.setIfInBounds_toArray, List.set_cons_zero, List.set_cons_succ]
            refine anyT_take0 (i := 5) (v := ?_) rfl (by kernel_rfl) (by kernel_rfl) (by kernel_rfl) (by kernel_rfl) (by kernel_rfl) (fun _ _ _ h => h) hC (.inl ⟨by rfl, fun _ _ => ?_⟩) ?_
            rotate_left 1
            · go_simp
              try with_reducible rfl
            simp only [Act.put, List.getElem_toArray, List.getElem_cons_succ, List.getElem_cons_zero, List.setIfInBounds_toArray, List.set_cons_zero, List.set_cons_succ]
            refine anyT_take0 (i := 6) (v := ?_) rfl (by kernel_rfl) (by kernel_rfl) (by kernel_rfl) (by kernel_rfl) (by kernel_rfl) (fun _ _ _ h => h) hC (.inl ⟨by rfl, fun _ _ => ?_⟩) ?_
            rotate_left 1
            · go_simp
              try with_reducible rfl
            simp only [Act.put, List.getElem_toArray, List.getElem_cons_succ, List.getElem_cons_zero, List.setIfInBounds_toArray, List.set_cons_zero, List.set_cons_succ]
            refine anyT_take0 (i := 7) (v := ?_) rfl (by kernel_rfl) (by kernel_rfl) (by kernel_rfl) (by kernel_rfl) (by kernel_rfl) (fun _ _ _ h => h) hC (.inl ⟨by rfl, fun _ _ => ?_⟩) ?_
            rotate_left 1
            · go_simp
              try with_reducible rfl
            simp only [Act.put, List.getElem_toArray, List.getElem_cons_succ, List.getElem_cons_zero, List.setIfInBounds_toArray, List.set_cons_zero, List.set_cons_succ]
            refine anyT_tail (k := 8) (by rfl) (by kernel_rfl) (by simp) rfl rfl (by kernel_rfl) ?_
            have hkd : Keeps (fun _ => False) w w8.drew := HK8.out.drew
            obtain ⟨q1, q2, -⟩ := cuts (BRd.keeps HB.out hkd) HN.out
            have hdl : (b.take N).length ≤ 9000000 := by rw [List.length_take]; omega
            have HDF := Lib.hid hDF
            clear hDF hC
            generalize b.take N = BT at *
            generalize b.drop N = BD at *
            go_wp2_with fail
            refine (HT2.out _ _ _ q2 hdl (HT.out.keeps hkd)).mono ?_
            rintro e w9 ⟨v9, rfl, ho9, hk9⟩
            generalize tagS ⟨spi, key, salt, mac, esn, window⟩ o BT = TB at *
            have HSM := Lib.hid (same_any _ _ _ _ w9 _ _ (BRd.keeps q1 hk9) ho9.bat)
            obtain ⟨a9, c9, rfl, -, -⟩ := ho9.slice
            have HK9 := Lib.hid (hkd.trans hk9 (fun _ _ h => h))
            have hFc : G = 0 → decide (BD = TB) = true := fun h => decide_eq_true (HDF.out h)
            generalize decide (BD = TB) = hc at *
            clear ho9 hk9 q1 q2 hkd HR8 HK8 HDF hdl
            go_wp2_with fail
            refine HSM.out.mono ?_
            rintro e w10 ⟨rfl, rfl⟩
            clear HSM
            go_wp2_with fail
            refine (HAW.out _ (HT.out.keeps HK9.out)).mono ?_
            rintro e w11 ⟨rfl, hk11⟩
            have HK11 := Lib.hid (HK9.out.trans hk11 (fun _ _ h => h))
            clear hk11
            by_cases hG : G = 0
            · have hc1 := hFc hG
              subst hG hc1
              go_wp2
              go_ret
              exact ⟨rfl, HK11.out⟩
            · clear hFc
              go_wp2
              go_ret
              exact ⟨rfl, HK11.out⟩
    · have hO := HO.out
      have HO1 := Lib.hid (fun (w : World) (v : Value) (hd : BRd w v b) (hT : Table w) => hO w s v b hd hs (by omega) hT)
      clear hO HO
      generalize openS sa s b = O at *
      obtain ⟨E, D, x⟩ := O
      simp only at h3 HO1
      obtain ⟨ba, bc, rfl, -, -⟩ := BAt.slice hb
      obtain ⟨spi, key, salt, mac, esn, window⟩ := sa
      unfold saC at hka hra HF HO1 ⊢
      simp only at hka hra HF HO1 ⊢
      have HKA := Lib.hid hka
      have HRA := Lib.hid hra
      clear hka hra hs hb hT hsz h2 hm
      go_enter Tryd.func6, Tryd.ntmps6
      go_wp2_with fail
      refine (HF.out _).mono ?_
      rintro e w1 ⟨rfl, hk1⟩
      have HK1 := Lib.hid (HKA.out.trans hk1 (fun _ _ h => h))
      have HR1 := Lib.hid (HRA.out.keeps hk1 (fun h => h))
      clear hk1 HF
      have HOX := Lib.hid (HO1.out w1 _ (BRd.keeps HB.out HK1.out) (HT.out.keeps HK1.out))
      have d0 := (HR1.out).cell 0
      have d1 := (HR1.out).cell 1
      have d2 := (HR1.out).cell 2
      have d3 := (HR1.out).cell 3
      have d4 := (HR1.out).cell 4
      have d5 := (HR1.out).cell 5
      go_wp2_with fail
      refine HOX.out.mono ?_
      rintro e w2 ⟨v2, rfl, -, hk2⟩
      have HK2 := Lib.hid (HK1.out.trans hk2 (fun _ _ h => h))
      clear hk2 d0 d1 d2 d3 d4 d5 HO1 HOX HR1
      go_wp2_with fail
      refine (HAW.out _ (HT.out.keeps HK2.out)).mono ?_
      rintro e w3 ⟨rfl, hk3⟩
      have HK3 := Lib.hid (HK2.out.trans hk3 (fun _ _ h => h))
      clear hk3
      go_wp2
      go_ret
      exact ⟨rfl, HK3.out⟩
  · have h2 : fw = false ∨ 600 < b.length := by
      cases fw with
      | false => exact .inl rfl
      | true => exact .inr (Nat.lt_of_not_le fun h => h1 ⟨rfl, h⟩)
    obtain ⟨ba, bc, rfl, -, -⟩ := BAt.slice hb
    obtain ⟨spi, key, salt, mac, esn, window⟩ := sa
    unfold saC at hka hra HF ⊢
    simp only at hka hra HF ⊢
    have HKA := Lib.hid hka
    have HRA := Lib.hid hra
    clear hka hra hs hb hT hsz h1 hm
    go_enter Tryd.func6, Tryd.ntmps6
    go_wp2_with fail
    refine (HF.out _).mono ?_
    rintro e w1 ⟨rfl, hk1⟩
    have HK1 := Lib.hid (HKA.out.trans hk1 (fun _ _ h => h))
    have HR1 := Lib.hid (HRA.out.keeps hk1 (fun h => h))
    clear hk1 HF
    cases fw with
    | false =>
      go_wp2
      go_ret
      exact ⟨rfl, HK1.out⟩
    | true =>
      have h3 : (600 : Int) < b.length := by rcases h2 with h2 | h2; cases h2; omega
      clear h2
      go_wp2
      go_ret
      exact ⟨rfl, HK1.out⟩
theorem lforged_row (sa : SaV) (seq : Int) (bv : Value) (b : List UInt8) (at' : Int) (c : UInt8) (more : Int) (w : World) (hsz : SizedSa sa) (hq : (Lit.int .u64 seq).wf = true) (hb : BAt w (· < w.heap.size) bv b) (_ : (Lit.int .i64 at').wf = true) (hm : (Lit.int .u64 more).wf = true) (hT : Table w) :
    Calls Tryd.prog 6 #[.agg (saC sa), .int .u64 seq, bv, .int .i64 at', .int .u8 (c.toNat : Int), .int .u64 more] w fun e w' => e = .returned (.bool true) ∧ Keeps (fun _ => False) w w' := by
  obtain ⟨s, rfl, hs⟩ := u64_nat hq
  obtain ⟨m, rfl, hm2⟩ := u64_nat hm
  exact lforged_any sa s bv b at' c m w hsz hs hm2 hb hT
end Go.Proofs.YtekaoknpjpbjgaaDoor
