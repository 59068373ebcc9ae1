/- Words, walks and plain laws that the claim leans on, part 44. -/
import Derived.Test.YtekaoknpjpbjgaaDoorM32
import Derived.Test.YtekaoknpjpbjgaaDoorM43

/-! The law EspOpens. -/
namespace Go.Proofs.YtekaoknpjpbjgaaDoor
set_option linter.unusedVariables false
set_option linter.unusedSimpArgs false
open Go.RowKit

set_option maxRecDepth 100000 in
set_option maxHeartbeats 2000000 in
theorem lopens_any (sa : SaV) (s : Nat) (bv : Value) (b : List UInt8) (w : World) (hsz : SizedSa sa) (hs : s < 18446744073709551616) (hb : BRd w bv b) (hT : Table w) :
    Calls Tryd.prog 4 #[.agg (saC sa), .int .u64 s, bv] w fun e w' => e = .returned (.bool true) ∧ Keeps (fun _ => False) w w' := by
  have hka := (Keeps.refl (fun _ => False) w).alloc (.cells (saC sa) 23)
  have hra := RowAt.new w (saC sa) 23
  have HF := Lib.hid (fun w => few_any sa w hsz)
  have HAW := Lib.hid eawake_any
  have HT := Lib.hid hT
  have HD := Lib.hid hb
  have HO1' := Lib.hid (fun (w : World) (v : Value) (hd : BRd w v b) (hT : Table w) (hl : b.length ≤ 600) => open_any sa s v b w hd hs (by omega) hT)
  have HO2' := Lib.hid (fun (w : World) (v : Value) (hd : BRd w v b) (hl : b.length ≤ 600) => ropen_any sa s v b w hsz hd hs (by omega))
  have HP1 := Lib.hid (fun (w : World) (v : Value) (hd : BRd w v b) => peek_any v b w hd)
  have HP2 := Lib.hid (fun (w : World) (v : Value) (hd : BRd w v b) => rpeek_any v b w hd)
  unfold OpenE at HO1' HO2'
  generalize openS sa s b = O at *
  obtain ⟨E, D, xx⟩ := O
  simp only at HO1' HO2'
  generalize (xx : Int) = nx at *
  generalize peekS b = PK at *
  obtain ⟨k1, k2, k3⟩ := PK
  simp only at HP1 HP2
  generalize fewS sa = fw at *
  obtain ⟨ba, bc, rfl, -, -⟩ := hb.slice
  obtain ⟨z, hz⟩ : ∃ z : Int, (s : Int) = z := ⟨_, rfl⟩
  rw [hz] at HO1' HO2' ⊢
  obtain ⟨spi, key, salt, mac, esn, window⟩ := sa
  unfold saC at hka hra HF HO1' HO2' ⊢
  simp only at hka hra HF HO1' HO2' ⊢
  have HKA := Lib.hid hka
  have HRA := Lib.hid hra
  clear hka hra hb hT hsz hs hz
  by_cases hg : fw = true ∧ b.length ≤ 600
  · obtain ⟨rfl, hg2⟩ := hg
    have hgI : (b.length : Int) ≤ 600 := by omega
    have HO1 := Lib.hid (fun (w : World) (v : Value) (hd : BRd w v b) (hT : Table w) => HO1'.out w v hd hT hg2)
    have HO2 := Lib.hid (fun (w : World) (v : Value) (hd : BRd w v b) => HO2'.out w v hd hg2)
    clear HO1' HO2'
    go_enter Tryd.func4, Tryd.ntmps4
    go_wp2_with fail
    refine (HF.out _).mono ?_
    rintro e w1 ⟨rfl, hk1⟩
    have HK1 := Lib.hid (HKA.out.trans hk1 (fun _ _ h => h))
    have HR1 := Lib.hid (HRA.out.keeps hk1 (fun h => h))
    clear hk1 HF
    have hka5 := HK1.out.alloc (.cells #[.slice ba b.length bc] 25)
    have HBO := Lib.hid (both_any _ [b] _ (by have h := (BBAt.one (T := 25) (BRd.keeps HD.out HK1.out)).low; exact h) (by simp; omega))
    have HKA5 := Lib.hid hka5
    have HRA5 := Lib.hid (HR1.out.alloc (.cells #[.slice ba b.length bc] 25))
    clear hka5 HR1 hg2
    go_wp2_with fail
    refine HBO.out.mono ?_
    rintro e w5 ⟨v5, rfl, ho5, hk5⟩
    rw [show [b].flatten = b by simp] at ho5
    have HOWN5 := Lib.hid (show BRd w5 v5 b from ho5.bat.low)
    have HK5 := Lib.hid (HKA5.out.trans hk5 (fun _ _ h => h))
    have HR5 := Lib.hid (HRA5.out.keeps hk5 (fun h => h))
    clear ho5 hk5 HBO HKA5 HRA5 HK1
    have HSX := Lib.hid (HO1.out _ _ HOWN5.out (HT.out.keeps HK5.out))
    have d0 := (HR5.out).cell 0
    have d1 := (HR5.out).cell 1
    have d2 := (HR5.out).cell 2
    have d3 := (HR5.out).cell 3
    have d4 := (HR5.out).cell 4
    have d5 := (HR5.out).cell 5
    go_wp2_with fail
    refine HSX.out.mono ?_
    rintro e w6 ⟨v6, rfl, ho6, hk6⟩
    have HS6 := Lib.hid (show BRd w6 v6 D from ho6.bat.low)
    have HOWN6 := Lib.hid (BRd.keeps HOWN5.out hk6)
    have HK6 := Lib.hid (HK5.out.trans hk6 (fun _ _ h => h))
    have HR6 := Lib.hid (HR5.out.keeps hk6 (fun h => h))
    clear ho6 hk6 HSX HO1 HOWN5 HK5 HR5 d0 d1 d2 d3 d4 d5
    have HSX := Lib.hid (HO2.out _ _ (BRd.keeps HD.out HK6.out))
    have d0 := (HR6.out).cell 0
    have d1 := (HR6.out).cell 1
    have d2 := (HR6.out).cell 2
    have d3 := (HR6.out).cell 3
    have d4 := (HR6.out).cell 4
    have d5 := (HR6.out).cell 5
    go_wp2_with fail
    refine HSX.out.mono ?_
    rintro e w7 ⟨v7, rfl, ho7, hk7⟩
    have HC7 := Lib.hid (show BRd w7 v7 D from ho7.bat.low)
    have HS7 := Lib.hid (BRd.keeps HS6.out hk7)
    have HOWN7 := Lib.hid (BRd.keeps HOWN6.out hk7)
    have HK7 := Lib.hid (HK6.out.trans hk7 (fun _ _ h => h))
    clear ho7 hk7 HSX HO2 HOWN6 HK6 HR6 HS6 d0 d1 d2 d3 d4 d5
    go_wp2_with fail
    refine (HP1.out _ _ HOWN7.out).mono ?_
    rintro e w8 ⟨rfl, n8, rfl⟩
    have HK8 := Lib.hid (HK7.out.drewN n8)
    have hk78 := (Keeps.refl (fun _ => False) w7).drewN n8
    have HC8 := Lib.hid (BRd.keeps HC7.out hk78)
    have HS8 := Lib.hid (BRd.keeps HS7.out hk78)
    have HOWN8 := Lib.hid (BRd.keeps HOWN7.out hk78)
    generalize w7.drewN n8 = w8 at *
    clear hk78 HK7 HC7 HS7 HOWN7 HP1
    go_wp2_with fail
    refine (HP2.out _ _ (BRd.keeps HD.out HK8.out)).mono ?_
    rintro e w9 ⟨rfl, n9, rfl⟩
    have HK9 := Lib.hid (HK8.out.drewN n9)
    have hk89 := (Keeps.refl (fun _ => False) w8).drewN n9
    have HC9 := Lib.hid (BRd.keeps HC8.out hk89)
    have HS9 := Lib.hid (BRd.keeps HS8.out hk89)
    have HOWN9 := Lib.hid (BRd.keeps HOWN8.out hk89)
    generalize w8.drewN n9 = w9 at *
    clear hk89 HK8 HC8 HS8 HOWN8 HP2
    go_wp2_with fail
    refine (HAW.out _ (HT.out.keeps HK9.out)).mono ?_
    rintro e w10 ⟨rfl, hk10⟩
    have HKF := Lib.hid (HK9.out.trans hk10 (fun _ _ h => h))
    have t1 := (BRd.keeps HOWN9.out hk10).text
    have t2 := (BRd.keeps HD.out HKF.out).text
    have t3 := (BRd.keeps HS9.out hk10).text
    have t4 := (BRd.keeps HC9.out hk10).text
    clear hk10 HK9 HC9 HS9 HOWN9 HAW
    go_wp2
    go_ret
    exact ⟨rfl, HKF.out⟩
  · have h2 : fw = false ∨ 600 < b.length := by
      cases fw with
      | false => exact .inl rfl
      | true => exact .inr (Nat.lt_of_not_le fun h => hg ⟨rfl, h⟩)
    clear HO1' HO2' hg
    go_enter Tryd.func4, Tryd.ntmps4
    go_wp2_with fail
    refine (HF.out _).mono ?_
    rintro e w1 ⟨rfl, hk1⟩
    have HK1 := Lib.hid (HKA.out.trans hk1 (fun _ _ h => h))
    have HR1 := Lib.hid (HRA.out.keeps hk1 (fun h => h))
    clear hk1 HF
    cases fw with
    | false =>
      go_wp2
      go_ret
      exact ⟨rfl, HK1.out⟩
    | true =>
      have h3 : (600 : Int) < b.length := by rcases h2 with h2 | h2; cases h2; omega
      clear h2
      go_wp2
      go_ret
      exact ⟨rfl, HK1.out⟩
theorem lopens_row (sa : SaV) (seq : Int) (bv : Value) (b : List UInt8) (w : World) (hsz : SizedSa sa) (hq : (Lit.int .u64 seq).wf = true) (hb : BAt w (· < w.heap.size) bv b) (hT : Table w) :
    Calls Tryd.prog 4 #[.agg (saC sa), .int .u64 seq, bv] w fun e w' => e = .returned (.bool true) ∧ Keeps (fun _ => False) w w' := by
  obtain ⟨s, rfl, hs⟩ := u64_nat hq
  exact lopens_any sa s bv b w hsz hs hb hT
end Go.Proofs.YtekaoknpjpbjgaaDoor
