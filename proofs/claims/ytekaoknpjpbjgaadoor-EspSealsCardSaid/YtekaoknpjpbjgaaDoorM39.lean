/- Words, walks and plain laws that the claim leans on, part 39. -/
import Derived.Test.YtekaoknpjpbjgaaDoorM36

/-! The reference's Keys at 32 bytes. -/
namespace Go.Proofs.YtekaoknpjpbjgaaDoor
set_option linter.unusedVariables false
set_option linter.unusedSimpArgs false
open Go.RowKit
set_option maxRecDepth 100000 in
set_option maxHeartbeats 4000000 in
theorem rkeys32_any (kv : Value) (key : List UInt8) (w : World) (hk : BRd w kv key) (hkl : key.length = 32) :
    Calls Tryd.prog 54 #[kv] w (Gives (keysOf key) w) := by
  obtain ⟨ka, kc, rfl, hkc, hkm⟩ := BAt.slice hk
  have HK := Lib.hid hk
  rw [hkl] at HK hkc ⊢
  have HN := Lib.hid hkl
  clear hk hkl
  go_enter Tryd.func54, Tryd.ntmps54
  go_wp2_with fail
  refine (rtable_any _).mono ?_
  rintro e w1 ⟨v1, rfl, ho1, hk1⟩
  obtain ⟨tb, to', tc, csT, rfl, htb, hrt1, hcsT⟩ := ho1.row (by rw [boxL_len]; omega)
  rw [boxL_len] at hcsT ⊢
  have HCS := Lib.hid (fun x : UInt8 => hcsT x.toNat x.toNat_lt)
  have HRT1 := Lib.hid hrt1
  have HK1 := Lib.hid hk1
  have hkb := hk1.alloc (.cells #[.slice ka 32 kc] 25)
  have HBO := Lib.hid (both_any _ [key] _ (by have h := (BBAt.one (T := 25) (BRd.keeps HK.out hk1)).low; exact h) (by simp; have := HN.out; omega))
  have hrtb := hrt1.alloc (.cells #[.slice ka 32 kc] 25)
  have HRTB := Lib.hid hrtb
  have HKB := Lib.hid hkb
  have hqq : (32 : Int).tdiv 4 = 8 := by rfl
  clear hrt1 hcsT ho1 hk1 hkb hrtb
  go_wp2_with fail
  refine HBO.out.mono ?_
  rintro e w3 ⟨v3, rfl, ho3, hk3⟩
  rw [show [key].flatten = key by simp] at ho3
  obtain ⟨a3, c3, rfl, -, -⟩ := BOwn.slice ho3
  rw [HN.out] at ho3 ⊢
  have HO3 := Lib.hid (ho3.mono HKB.out.size)
  have HR3 := Lib.hid (HRTB.out.keeps hk3 (fun h => h))
  have HK3 := Lib.hid (HKB.out.trans hk3 (fun _ _ h => h))
  clear ho3 hk3 HBO HRTB HKB HRT1 HK1
  have hst : keysF 32 52 key 1 = keysOf key := by unfold keysOf; rw [HN.out]; rfl
  have HST := Lib.hid hst
  clear hst
  go_wp2
  go_loopw [5, 6, 7] (fun u5 u6 u7 wr => ∃ (f i : Nat) (out : List UInt8) (t : UInt8) (a : Option Addr) (c : Nat), u5 = .slice a (4 * i) c ∧ u6 = .int .i64 (t.toNat : Int) ∧ u7 = .int .i64 i ∧ out.length = 4 * i ∧ i + f = 60 ∧ 8 ≤ i ∧ BOwn wr w.heap.size (.slice a (4 * i) c) out ∧ RowAt wr tb csT 3 ∧ keysF 32 f out t = keysOf key ∧ Keeps (fun _ => False) w wr) (fun _ _ u7 _ => 60 - (intOf u7).toNat)
  case atStart => exact ⟨52, 8, key, 1, _, _, rfl, rfl, rfl, HN.out, rfl, by omega, HO3.out, HR3.out, HST.out, HK3.out⟩
  case round =>
    obtain ⟨f, i, out, t, a, c, rfl, rfl, rfl, hol, hif, hiN, ho, hr, hF, hkr⟩ := hrel
    have HF := Lib.hid hF
    have HKR := Lib.hid hkr
    clear HR3 HO3 HST HK3 hF hkr
    cases f with
    | zero =>
      obtain rfl : i = 60 := by omega
      have HO := Lib.hid ho
      clear ho hr
      go_wp2
      go_ret
      have e1 : out = keysOf key := HF.out
      exact ⟨_, rfl, by rw [← e1]; exact HO.out, HKR.out⟩
    | succ f =>
      generalize wr = V at *
      obtain ⟨I, hI⟩ : ∃ I, 4 * i = I := ⟨_, rfl⟩
      rw [hI] at hol ho ⊢
      obtain ⟨k, hk⟩ : ∃ k, I = k + 4 := ⟨I - 4, by omega⟩
      have hilt : (i : Int) < 60 := by omega
      have hi60 : i ≤ 60 := by omega
      obtain ⟨g, off, c', he, hcl, -, hgb⟩ := BOwn.place ho (by omega)
      simp only [Value.slice.injEq] at he
      obtain ⟨rfl, -, rfl⟩ := he
      have hcell : ∀ j, j < out.length → V.cell? ⟨g, off + j, none⟩ = some (.int .u8 ((at8 out j).toNat : Int)) := fun j hj => by
        obtain ⟨b9, o9, c9, e9, -, -, -, h9⟩ := BAt.at8 ho.bat (by omega)
        simp only [Value.slice.injEq, Option.some.injEq, Addr.mk.injEq, and_true] at e9
        obtain ⟨⟨rfl, rfl⟩, -, -⟩ := e9
        exact h9 j hj
      have s0 := hcell k (by omega)
      have s1 := hcell (k + 1) (by omega)
      have s2 := hcell (k + 2) (by omega)
      have s3 := hcell (k + 3) (by omega)
      obtain ⟨x0, hx0⟩ : ∃ x, at8 out k = x := ⟨_, rfl⟩
      obtain ⟨x1, hx1⟩ : ∃ x, at8 out (k + 1) = x := ⟨_, rfl⟩
      obtain ⟨x2, hx2⟩ : ∃ x, at8 out (k + 2) = x := ⟨_, rfl⟩
      obtain ⟨x3, hx3⟩ : ∃ x, at8 out (k + 3) = x := ⟨_, rfl⟩
      rw [hx0] at s0
      rw [hx1] at s1
      rw [hx2] at s2
      rw [hx3] at s3
      obtain ⟨k1, hk1⟩ : ∃ k1, k + 1 = k1 := ⟨_, rfl⟩
      obtain ⟨k2, hk2⟩ : ∃ k2, k + 2 = k2 := ⟨_, rfl⟩
      obtain ⟨k3, hk3⟩ : ∃ k3, k + 3 = k3 := ⟨_, rfl⟩
      rw [hk1] at s1
      rw [hk2] at s2
      rw [hk3] at s3
      have v0 : (k : Int) < (I : Int) := by omega
      have v1 : (k1 : Int) < (I : Int) := by omega
      have v2 : (k2 : Int) < (I : Int) := by omega
      have v3 : (k3 : Int) < (I : Int) := by omega
      have z0 : IntKind.i64.wrap (4 * (i : Int)) = (I : Int) := by rw [show 4 * (i : Int) = (I : Int) by omega]; exact i64_f _ (by omega) (by omega)
      have z1 : IntKind.i64.wrap ((I : Int) - 4) = (k : Int) := by rw [show (I : Int) - 4 = (k : Int) by clear z0; omega]; exact i64_f _ (by clear z0; omega) (by clear z0; omega)
      have z2 : IntKind.i64.wrap ((I : Int) - 3) = (k1 : Int) := by clear z0 z1; rw [show (I : Int) - 3 = (k1 : Int) by omega]; exact i64_f _ (by omega) (by omega)
      have z3 : IntKind.i64.wrap ((I : Int) - 2) = (k2 : Int) := by clear z0 z1 z2; rw [show (I : Int) - 2 = (k2 : Int) by omega]; exact i64_f _ (by omega) (by omega)
      have z4 : IntKind.i64.wrap ((I : Int) - 1) = (k3 : Int) := by clear z0 z1 z2 z3; rw [show (I : Int) - 1 = (k3 : Int) by omega]; exact i64_f _ (by omega) (by omega)
      have HZ := Lib.hid (And.intro z0 (And.intro z1 (And.intro z2 (And.intro z3 z4))))
      clear z0 z1 z2 z3 z4
      have HX := Lib.hid (And.intro hx0 (And.intro hx1 (And.intro hx2 hx3)))
      have HKK := Lib.hid (And.intro hk (And.intro hk1 (And.intro hk2 hk3)))
      have HO := Lib.hid ho
      have HR := Lib.hid hr
      have HI := Lib.hid hI
      have HOL := Lib.hid hol
      clear hx0 hx1 hx2 hx3 hcell ho hr hol hk hk1 hk2 hk3
      have htm : (i : Int).tmod 8 = (i : Int) % 8 := Int.tmod_eq_emod_of_nonneg (by omega)
      have htm8 : (i : Int).tmod 8 = (i : Int) % 8 := Int.tmod_eq_emod_of_nonneg (by omega)
      have l0 := m8_lt x0
      have l1 := m8_lt x1
      have l2 := m8_lt x2
      have l3 := m8_lt x3
      go_wp2
      obtain ⟨z0, z1, z2, z3, z4⟩ := HZ.out
      clear HZ
      refine region_draws_tail 28 (by kernel_rfl) (by kernel_rfl) ?_
      simp only [List.take_succ_cons, List.take_zero, List.drop_succ_cons, List.drop_zero]
      repeat (go_big_quiet_step (fail))
      refine wpQuiet_nil ?_
      rintro _ ⟨nq, rfl⟩
      clear z0 z1 z2 z3 z4
      have hrow := RowAt.new (V.drewN nq) #[.int .i64 (x0.toNat : Int), .int .i64 (x1.toNat : Int), .int .i64 (x2.toNat : Int), .int .i64 (x3.toNat : Int)] 3
      have hkA : Keeps (fun _ => False) V ((V.drewN nq).alloc (.cells #[.int .i64 (x0.toNat : Int), .int .i64 (x1.toNat : Int), .int .i64 (x2.toNat : Int), .int .i64 (x3.toNat : Int)] 3)) := ((Keeps.refl (fun _ => False) V).drewN nq).alloc _
      have HRow := Lib.hid hrow
      have HKA := Lib.hid hkA
      clear hrow hkA s0 s1 s2 s3 v0 v1 v2 v3
      by_cases hm : i % 8 = 0
      · have hmI : (i : Int) % 8 = 0 := by omega
        go_wp2_with fail
        generalize hW5 : (V.drewN nq).alloc (.cells #[.int .i64 (x0.toNat : Int), .int .i64 (x1.toNat : Int), .int .i64 (x2.toNat : Int), .int .i64 (x3.toNat : Int)] 3) = W5 at *
        obtain ⟨T5, hT5⟩ : ∃ T5, (V.drewN nq).heap.size = T5 := ⟨_, rfl⟩
        have hT5' : V.heap.size = T5 := hT5
        rw [hT5] at HRow
        rw [hT5']
        have r5 := HR.out.keeps HKA.out (fun h => h)
        have d0 := HRow.out.cell 0
        have d1 := HRow.out.cell 1
        have d2 := HRow.out.cell 2
        have d3 := HRow.out.cell 3
        have e0 := (r5.cell (to' + x0.toNat)).trans (HCS.out x0)
        have e1 := (r5.cell (to' + x1.toNat)).trans (HCS.out x1)
        have e2 := (r5.cell (to' + x2.toNat)).trans (HCS.out x2)
        have e3 := (r5.cell (to' + x3.toNat)).trans (HCS.out x3)
        rw [at_boxL] at e0 e1 e2 e3
        have HR5 := Lib.hid r5
        clear hW5 hT5 hT5' HRow r5
        have y1x : ∃ y, sbox x1 ^^^ t = y := ⟨_, rfl⟩
        obtain ⟨y1, hy1⟩ := y1x
        have hx := x64 (sbox x1) t y1 hy1
        obtain ⟨y2, hy2⟩ : ∃ y, sbox x2 = y := ⟨_, rfl⟩
        obtain ⟨y3, hy3⟩ : ∃ y, sbox x3 = y := ⟨_, rfl⟩
        obtain ⟨y0, hy0⟩ : ∃ y, sbox x0 = y := ⟨_, rfl⟩
        rw [hy0] at e0
        rw [hy2] at e2
        rw [hy3] at e3
        have HWD := Lib.hid (show keyWord 32 out t = [y1, y2, y3, y0] by
          unfold keyWord
          obtain ⟨q0, q1, q2, q3⟩ := HKK.out
          obtain ⟨p0, p1, p2, p3⟩ := HX.out
          have := HI.out
          rw [HOL.out, if_pos (by omega), show I - 3 = k + 1 by omega, show I - 2 = k + 2 by omega, show I - 1 = k + 3 by omega, show I - 4 = k by omega, p0, p1, p2, p3, hy1, hy2, hy3, hy0])
        have HTT := Lib.hid (show turnStep 32 out t = dbl t by unfold turnStep; rw [HOL.out, if_pos (by have := HI.out; omega)])
        obtain ⟨s9, hs9⟩ : ∃ s, sbox x1 = s := ⟨_, rfl⟩
        rw [hs9] at e1 hx
        clear hy0 hy1 hy2 hy3 hs9
        refine region_draws_tail 26 (by kernel_rfl) (by kernel_rfl) ?_
        simp only [List.take_succ_cons, List.take_zero, List.drop_succ_cons, List.drop_zero]
        repeat (go_big_quiet_step (fail))
        refine wpQuiet_nil ?_
        rintro _ ⟨nq, rfl⟩
        have hrow := RowAt.new (W5.drewN nq) #[.int .i64 (y1.toNat : Int), .int .i64 (y2.toNat : Int), .int .i64 (y3.toNat : Int), .int .i64 (y0.toNat : Int)] 3
        have hkB : Keeps (fun _ => False) V ((W5.drewN nq).alloc (.cells #[.int .i64 (y1.toNat : Int), .int .i64 (y2.toNat : Int), .int .i64 (y3.toNat : Int), .int .i64 (y0.toNat : Int)] 3)) := (HKA.out.drewN nq).alloc _
        have HRow := Lib.hid hrow
        have HKB := Lib.hid hkB
        clear hrow hkB
        clear hx d0 d1 d2 d3 e0 e1 e2 e3
        go_wp2_with fail
        refine (rt2 t _).mono ?_
        rintro e w7 ⟨rfl, rfl⟩
        generalize hW6 : (W5.drewN nq).alloc (.cells #[.int .i64 (y1.toNat : Int), .int .i64 (y2.toNat : Int), .int .i64 (y3.toNat : Int), .int .i64 (y0.toNat : Int)] 3) = W6 at *
        obtain ⟨TW, hTW⟩ : ∃ TW, (W5.drewN nq).heap.size = TW := ⟨_, rfl⟩
        have hTW' : W5.heap.size = TW := hTW
        rw [hTW] at HRow
        rw [hTW']
        obtain ⟨csW, hcsW⟩ : ∃ csW : Array Value, #[.int .i64 (y1.toNat : Int), .int .i64 (y2.toNat : Int), .int .i64 (y3.toNat : Int), .int .i64 (y0.toNat : Int)] = csW := ⟨_, rfl⟩
        have HWC := Lib.hid (show ∀ j, j < 4 → csW[j]? = some (.int .i64 ((at8 [y1, y2, y3, y0] j).toNat : Int)) from fun j hj => by
          rw [← hcsW]
          obtain rfl | rfl | rfl | rfl : j = 0 ∨ j = 1 ∨ j = 2 ∨ j = 3 := by omega
          · rfl
          · rfl
          · rfl
          · rfl)
        rw [hcsW] at HRow
        have HRW := HRow
        have HRT := Lib.hid (HR.out.keeps HKB.out (fun h => h))
        have HO6 := Lib.hid (HO.out.keeps HKB.out (fun _ _ h => h))
        have HK6 := Lib.hid (HKR.out.trans HKB.out (fun _ _ h => h))
        obtain ⟨WD, hWD⟩ : ∃ WD : List UInt8, [y1, y2, y3, y0] = WD := ⟨_, rfl⟩
        rw [hWD] at HWD HWC
        clear hW6 hTW hTW' hcsW hWD HRow HKB HKA HR5 HO HKR HR W5
        go_wp2
        obtain ⟨p, hp⟩ : ∃ p, 4 * (i - 8) = p := ⟨_, rfl⟩
        obtain ⟨dd, hdd⟩ : ∃ d, i - 8 = d := ⟨_, rfl⟩
        have hpI : p + 32 = I := by omega
        have HP := Lib.hid hpI
        have qd : (i : Int) - 8 = (dd : Int) := by omega
        have qdw : IntKind.i64.wrap ((i : Int) - 8) = (dd : Int) := by rw [qd]; exact i64_f _ (by omega) (by omega)
        have q4 : 4 * (dd : Int) = (p : Int) := by omega
        have q4w : IntKind.i64.wrap (4 * (dd : Int)) = (p : Int) := by rw [q4]; exact i64_f _ (by omega) (by omega)
        have hp240 : p ≤ 240 := by omega
        have HQ := Lib.hid (And.intro qdw q4w)
        clear qd qdw q4 q4w hp hdd hpI
        go_loopw [9, 5] (fun u9 u5 wx => ∃ (j : Nat) (a' : Option Addr) (c' : Nat), j ≤ 4 ∧ u9 = .int .i64 j ∧ u5 = .slice a' (I + j) c' ∧ BOwn wx w.heap.size (.slice a' (I + j) c') (out ++ (List.range j).map (fun q => at8 WD q ^^^ at8 out (p + q))) ∧ RowAt wx TW csW 3 ∧ RowAt wx tb csT 3 ∧ Keeps (fun _ => False) w wx) (fun u9 _ _ => 4 - (intOf u9).toNat)
        case atStart => exact ⟨0, _, _, by omega, rfl, rfl, by simpa using HO6.out, HRW.out, HRT.out, HK6.out⟩
        case round =>
          obtain ⟨j, a', c', hj4, rfl, rfl, hox, hrw, hrt, hkx⟩ := hrel
          clear HO6 HRW HRT HK6
          have hlenj : (out ++ (List.range j).map (fun q => at8 WD q ^^^ at8 out (p + q))).length = I + j := by rw [List.length_append, HOL.out]; simp
          by_cases hjl : j < 4
          · obtain ⟨b9, o9, c9, e9, hc9, -, -, h9c⟩ := BAt.at8 hox.bat (by rw [hlenj]; have := HP.out; omega)
            simp only [Value.slice.injEq] at e9
            obtain ⟨rfl, -, rfl⟩ := e9
            have hcj := h9c (p + j) (by rw [hlenj]; have := HP.out; omega)
            have hat8 : at8 (out ++ (List.range j).map (fun q => at8 WD q ^^^ at8 out (p + q))) (p + j) = at8 out (p + j) := by
              unfold at8
              rw [List.getD_eq_getElem?_getD, List.getD_eq_getElem?_getD, List.getElem?_append_left (by rw [HOL.out]; have := HP.out; omega)]
            rw [hat8] at hcj
            have hwj : wr.cell? ⟨TW, j, none⟩ = some (.int .i64 ((at8 WD j).toNat : Int)) := (hrw.cell j).trans (HWC.out j hjl)
            obtain ⟨z, hz⟩ : ∃ z, at8 WD j ^^^ at8 out (p + j) = z := ⟨_, rfl⟩
            have hxx := x64 (at8 WD j) (at8 out (p + j)) z hz
            have hsn : out ++ (List.range (j + 1)).map (fun q => at8 WD q ^^^ at8 out (p + q)) = (out ++ (List.range j).map (fun q => at8 WD q ^^^ at8 out (p + q))) ++ [z] := by
              rw [List.range_succ, List.map_append, ← List.append_assoc, ← hz]
              rfl
            have HSN := Lib.hid hsn
            have hlz : ((out ++ (List.range j).map (fun q => at8 WD q ^^^ at8 out (p + q))) ++ [z]).length = I + (j + 1) := by rw [List.length_append, hlenj]; rfl
            have hbl := BAt.one wr.drew (z.toNat : Int) z 5 rfl
            have hka : Keeps (fun _ => False) wr (wr.drew.alloc (.cells #[.int .u8 (z.toNat : Int)] 5)) := ((Keeps.refl (fun _ => False) wr).drew).alloc _
            obtain ⟨v7, w7, hrun, hb7, hk7, -⟩ := run_append_bytes (ty := 25) (hox.keeps hka (fun _ _ h => h)) hbl (by rw [hlenj]; simp; omega) (by have := hka.size; have := hkx.size; omega)
            obtain ⟨a7, c7, rfl, -, -⟩ := BOwn.slice hb7
            rw [hlz] at hb7 hrun
            have hrw7 := (hrw.keeps hka (fun h => h)).keeps hk7 (fun e => own_apart hox hrw e)
            have hrt7 := (hrt.keeps hka (fun h => h)).keeps hk7 (fun e => own_apart hox hrt e)
            have hk7w := (hkx.trans hka (fun _ _ h => h)).from hk7 (fun b hb => (hox.block b hb).1)
            have HRUN := Lib.hid hrun
            have HB7 := Lib.hid hb7
            have HRW7 := Lib.hid hrw7
            have HRT7 := Lib.hid hrt7
            have HK7 := Lib.hid hk7w
            have ql : (p : Int) + (j : Int) < (I : Int) + (j : Int) := by have := HP.out; omega
            have q0 : (0 : Int) ≤ (p : Int) + (j : Int) := by omega
            have hj4I : (j : Int) < 4 := by omega
            have qb := i64_f ((p : Int) + (j : Int)) (by omega) (by omega)
            have hzf := u8_fit z
            have hwb := u8_i64 (at8 out (p + j))
            generalize (at8 WD j).toNat = xa at *
            generalize (at8 out (p + j)).toNat = xb at *
            generalize z.toNat = zn at *
            obtain ⟨pj, hpj⟩ : ∃ pj, p + j = pj := ⟨_, rfl⟩
            have hpjI : (p : Int) + (j : Int) = (pj : Int) := by omega
            rw [hpjI] at qb ql q0
            rw [hpj] at hcj
            clear hz hsn hlz hbl hka hrun hb7 hrw7 hrt7 hk7w hk7 hrw hrt hkx hox hat8 h9c hlenj hpj
            obtain ⟨qdw, q4w⟩ := HQ.out
            have qbw : IntKind.i64.wrap ((p : Int) + (j : Int)) = (pj : Int) := by rw [hpjI]; exact qb
            go_wp2
            refine region_T [17] (fun x => x.cell? ⟨TW, j, none⟩ = some (.int .i64 (xa : Int)) ∧ x.cell? ⟨b9, o9 + pj, none⟩ = some (.int .u8 (xb : Int))) (by kernel_rfl) ?_
            have hC : (fun x : World => x.cell? ⟨TW, j, none⟩ = some (.int .i64 (xa : Int)) ∧ x.cell? ⟨b9, o9 + pj, none⟩ = some (.int .u8 (xb : Int))) wr.drew := ⟨hwj, hcj⟩
            refine anyT_take0 (i := 0) (v := ?_) rfl (by kernel_rfl) (by kernel_rfl) (by kernel_rfl) (by kernel_rfl) (by kernel_rfl) (fun _ _ _ h => h) hC (.inl ⟨by rfl, fun _ _ => ?_⟩) ?_
            rotate_left 1
            · go_simp
              try with_reducible rfl
            simp only [Act.put, List.getElem_toArray, List.getElem_cons_succ, List.getElem_cons_zero, List.setIfInBounds_toArray, List.set_cons_zero, List.set_cons_succ]
            refine anyT_take0 (i := 1) (v := ?_) rfl (by kernel_rfl) (by kernel_rfl) (by kernel_rfl) (by kernel_rfl) (by kernel_rfl) (fun _ _ _ h => h) hC (.inl ⟨by rfl, fun _ _ => ?_⟩) ?_
            rotate_left 1
            · go_simp
              try with_reducible rfl
            simp only [Act.put, List.getElem_toArray, List.getElem_cons_succ, List.getElem_cons_zero, List.setIfInBounds_toArray, List.set_cons_zero, List.set_cons_succ]
            refine anyT_take0 (i := 2) (v := ?_) rfl (by kernel_rfl) (by kernel_rfl) (by kernel_rfl) (by kernel_rfl) (by kernel_rfl) (fun _ _ _ h => h) hC (.inl ⟨by rfl, fun _ _ => ?_⟩) ?_
            rotate_left 1
            · go_simp
              try with_reducible rfl
            simp only [Act.put, List.getElem_toArray, List.getElem_cons_succ, List.getElem_cons_zero, List.setIfInBounds_toArray, List.set_cons_zero, List.set_cons_succ]
            refine anyT_take0 (i := 3) (v := ?_) rfl (by kernel_rfl) (by kernel_rfl) (by kernel_rfl) (by kernel_rfl) (by kernel_rfl) (fun _ _ _ h => h) hC (.inl ⟨by rfl, fun _ _ => ?_⟩) ?_
            rotate_left 1
            · go_simp
              try with_reducible rfl
            simp only [Act.put, List.getElem_toArray, List.getElem_cons_succ, List.getElem_cons_zero, List.setIfInBounds_toArray, List.set_cons_zero, List.set_cons_succ]
            refine anyT_takeW (i := 4) (v := ?_) rfl (by kernel_rfl) (by kernel_rfl) (by kernel_rfl) (by kernel_rfl) (by kernel_rfl) (by kernel_rfl) (fun _ _ _ h => h) hC (.inl ⟨by rfl, fun w hCw => ?_⟩) ?_
            rotate_left 1
            · dsimp only at hCw
              go_simp
              try with_reducible rfl
            simp only [Act.put, List.getElem_toArray, List.getElem_cons_succ, List.getElem_cons_zero, List.setIfInBounds_toArray, List.set_cons_zero, List.set_cons_succ]
            refine anyT_take0 (i := 5) (v := ?_) rfl (by kernel_rfl) (by kernel_rfl) (by kernel_rfl) (by kernel_rfl) (by kernel_rfl) (fun _ _ _ h => h) hC (.inl ⟨by rfl, fun _ _ => ?_⟩) ?_
            rotate_left 1
            · go_simp
              try with_reducible rfl
            simp only [Act.put, List.getElem_toArray, List.getElem_cons_succ, List.getElem_cons_zero, List.setIfInBounds_toArray, List.set_cons_zero, List.set_cons_succ]
            refine anyT_take0 (i := 6) (v := ?_) rfl (by kernel_rfl) (by kernel_rfl) (by kernel_rfl) (by kernel_rfl) (by kernel_rfl) (fun _ _ _ h => h) hC (.inl ⟨by rfl, fun _ _ => ?_⟩) ?_
            rotate_left 1
            · go_simp
              try with_reducible rfl
            simp only [Act.put, List.getElem_toArray, List.getElem_cons_succ, List.getElem_cons_zero, List.setIfInBounds_toArray, List.set_cons_zero, List.set_cons_succ]
            refine anyT_take0 (i := 7) (v := ?_) rfl (by kernel_rfl) (by kernel_rfl) (by kernel_rfl) (by kernel_rfl) (by kernel_rfl) (fun _ _ _ h => h) hC (.inl ⟨by rfl, fun _ _ => ?_⟩) ?_
            rotate_left 1
            · go_simp
              try with_reducible rfl
            simp only [Act.put, List.getElem_toArray, List.getElem_cons_succ, List.getElem_cons_zero, List.setIfInBounds_toArray, List.set_cons_zero, List.set_cons_succ]
            refine anyT_take0 (i := 8) (v := ?_) rfl (by kernel_rfl) (by kernel_rfl) (by kernel_rfl) (by kernel_rfl) (by kernel_rfl) (fun _ _ _ h => h) hC (.inl ⟨by rfl, fun _ _ => ?_⟩) ?_
            rotate_left 1
            · go_simp
              try with_reducible rfl
            simp only [Act.put, List.getElem_toArray, List.getElem_cons_succ, List.getElem_cons_zero, List.setIfInBounds_toArray, List.set_cons_zero, List.set_cons_succ]
            refine anyT_take0 (i := 9) (v := ?_) rfl (by kernel_rfl) (by kernel_rfl) (by kernel_rfl) (by kernel_rfl) (by kernel_rfl) (fun _ _ _ h => h) hC (.inl ⟨by rfl, fun _ _ => ?_⟩) ?_
            rotate_left 1
            · go_simp
              try with_reducible rfl
            simp only [Act.put, List.getElem_toArray, List.getElem_cons_succ, List.getElem_cons_zero, List.setIfInBounds_toArray, List.set_cons_zero, List.set_cons_succ]
            refine anyT_take0 (i := 10) (v := ?_) rfl (by kernel_rfl) (by kernel_rfl) (by kernel_rfl) (by kernel_rfl) (by kernel_rfl) (fun _ _ _ h => h) hC (.inl ⟨by rfl, fun _ _ => ?_⟩) ?_
            rotate_left 1
            · go_simp
              try with_reducible rfl
            simp only [Act.put, List.getElem_toArray, List.getElem_cons_succ, List.getElem_cons_zero, List.setIfInBounds_toArray, List.set_cons_zero, List.set_cons_succ]
            refine anyT_take0 (i := 11) (v := ?_) rfl (by kernel_rfl) (by kernel_rfl) (by kernel_rfl) (by kernel_rfl) (by kernel_rfl) (fun _ _ _ h => h) hC (.inl ⟨by rfl, fun _ _ => ?_⟩) ?_
            rotate_left 1
            · go_simp
              try with_reducible rfl
            simp only [Act.put, List.getElem_toArray, List.getElem_cons_succ, List.getElem_cons_zero, List.setIfInBounds_toArray, List.set_cons_zero, List.set_cons_succ]
            refine anyT_take0 (i := 12) (v := ?_) rfl (by kernel_rfl) (by kernel_rfl) (by kernel_rfl) (by kernel_rfl) (by kernel_rfl) (fun _ _ _ h => h) hC (.inl ⟨by rfl, fun _ _ => ?_⟩) ?_
            rotate_left 1
            · go_simp
              try with_reducible rfl
            simp only [Act.put, List.getElem_toArray, List.getElem_cons_succ, List.getElem_cons_zero, List.setIfInBounds_toArray, List.set_cons_zero, List.set_cons_succ]
            refine anyT_takeW (i := 13) (v := ?_) rfl (by kernel_rfl) (by kernel_rfl) (by kernel_rfl) (by kernel_rfl) (by kernel_rfl) (by kernel_rfl) (fun _ _ _ h => h) hC (.inl ⟨by rfl, fun w hCw => ?_⟩) ?_
            rotate_left 1
            · dsimp only at hCw
              go_simp
              try with_reducible rfl
            simp only [Act.put, List.getElem_toArray, List.getElem_cons_succ, List.getElem_cons_zero, List.setIfInBounds_toArray, List.set_cons_zero, List.set_cons_succ]
            refine anyT_take0 (i := 14) (v := ?_) rfl (by kernel_rfl) (by kernel_rfl) (by kernel_rfl) (by kernel_rfl) (by kernel_rfl) (fun _ _ _ h => h) hC (.inl ⟨by rfl, fun _ _ => ?_⟩) ?_
            rotate_left 1
            · go_simp
              try with_reducible rfl
            simp only [Act.put, List.getElem_toArray, List.getElem_cons_succ, List.getElem_cons_zero, List.setIfInBounds_toArray, List.set_cons_zero, List.set_cons_succ]
            refine anyT_take0 (i := 15) (v := ?_) rfl (by kernel_rfl) (by kernel_rfl) (by kernel_rfl) (by kernel_rfl) (by kernel_rfl) (fun _ _ _ h => h) hC (.inl ⟨by rfl, fun _ _ => ?_⟩) ?_
            rotate_left 1
            · go_simp
              try with_reducible rfl
            simp only [Act.put, List.getElem_toArray, List.getElem_cons_succ, List.getElem_cons_zero, List.setIfInBounds_toArray, List.set_cons_zero, List.set_cons_succ]
            refine anyT_take0 (i := 16) (v := ?_) rfl (by kernel_rfl) (by kernel_rfl) (by kernel_rfl) (by kernel_rfl) (by kernel_rfl) (fun _ _ _ h => h) hC (.inl ⟨by rfl, fun _ _ => ?_⟩) ?_
            rotate_left 1
            · go_simp
              try with_reducible rfl
            simp only [Act.put, List.getElem_toArray, List.getElem_cons_succ, List.getElem_cons_zero, List.setIfInBounds_toArray, List.set_cons_zero, List.set_cons_succ]
            refine anyT_tail (k := 17) (by rfl) (by kernel_rfl) (by simp) rfl rfl (by kernel_rfl) ?_
            go_wp2_with (at_builtin; refine Lib.wpList_append_run _ rfl _ _ _ _ rfl _ _ rfl rfl _ _ HRUN.out ?_)
            go_roundw
            case rel => first | exact ⟨j + 1, _, _, hjl, by go_num, rfl, by rw [HSN.out]; exact HB7.out, HRW7.out, HRT7.out, HK7.out⟩ | exact ⟨j + 1, hjl, rfl, _, _, ⟨rfl, rfl, rfl⟩, by rw [HSN.out]; exact HB7.out, HRW7.out, HRT7.out, HK7.out⟩
            case measure => clear qdw q4w qbw qb hzf hwb; simp [intOf]; omega
          · obtain rfl : j = 4 := by omega
            have HOX := Lib.hid hox
            have HRX := Lib.hid hrt
            have HKX := Lib.hid hkx
            have hfin : keysF 32 f (out ++ (List.range 4).map (fun q => at8 WD q ^^^ at8 out (p + q))) (dbl t) = keysOf key := by
              rw [← HF.out]
              show _ = keysF 32 f (keyStep 32 out t) (turnStep 32 out t)
              rw [HTT.out]
              unfold keyStep
              rw [HWD.out, HOL.out, show I - 32 = p by have := HP.out; omega]
            have HFIN := Lib.hid hfin
            have hl9 : (out ++ (List.range 4).map (fun q => at8 WD q ^^^ at8 out (p + q))).length = 4 * (i + 1) := by rw [hlenj, ← HI.out]; omega
            have HL9 := Lib.hid hl9
            have hI4 : I + 4 = 4 * (i + 1) := by rw [← HI.out]; omega
            rw [hI4] at HOX ⊢
            clear hox hrt hrw hkx hfin hlenj hl9 hI4
            go_wp2
            go_roundw
            case rel => exact ⟨f, i + 1, _, (dbl t), _, _, rfl, rfl, by go_num, HL9.out, by omega, by omega, HOX.out, HRX.out, HFIN.out, HKX.out⟩
            case measure => simp [intOf]; omega
      · have hmI : ¬ (i : Int) % 8 = 0 := by omega
        by_cases hm2 : (32 : Nat) = 32 ∧ i % 8 = 4
        · try (exact absurd hm2.1 (by decide))
          all_goals
            have hmJ : (i : Int) % 8 = 4 := by omega
            go_wp2_with fail
            generalize hW5 : (V.drewN nq).alloc (.cells #[.int .i64 (x0.toNat : Int), .int .i64 (x1.toNat : Int), .int .i64 (x2.toNat : Int), .int .i64 (x3.toNat : Int)] 3) = W5 at *
            obtain ⟨T5, hT5⟩ : ∃ T5, (V.drewN nq).heap.size = T5 := ⟨_, rfl⟩
            have hT5' : V.heap.size = T5 := hT5
            rw [hT5] at HRow
            rw [hT5']
            have r5 := HR.out.keeps HKA.out (fun h => h)
            have d0 := HRow.out.cell 0
            have d1 := HRow.out.cell 1
            have d2 := HRow.out.cell 2
            have d3 := HRow.out.cell 3
            have e0 := (r5.cell (to' + x0.toNat)).trans (HCS.out x0)
            have e1 := (r5.cell (to' + x1.toNat)).trans (HCS.out x1)
            have e2 := (r5.cell (to' + x2.toNat)).trans (HCS.out x2)
            have e3 := (r5.cell (to' + x3.toNat)).trans (HCS.out x3)
            rw [at_boxL] at e0 e1 e2 e3
            have HR5 := Lib.hid r5
            clear hW5 hT5 hT5' HRow r5
            obtain ⟨y1, hy1⟩ : ∃ y, sbox x1 = y := ⟨_, rfl⟩
            obtain ⟨y2, hy2⟩ : ∃ y, sbox x2 = y := ⟨_, rfl⟩
            obtain ⟨y3, hy3⟩ : ∃ y, sbox x3 = y := ⟨_, rfl⟩
            obtain ⟨y0, hy0⟩ : ∃ y, sbox x0 = y := ⟨_, rfl⟩
            rw [hy0] at e0
            rw [hy1] at e1
            rw [hy2] at e2
            rw [hy3] at e3
            have HWD := Lib.hid (show keyWord 32 out t = [y0, y1, y2, y3] by
              unfold keyWord
              obtain ⟨q0, q1, q2, q3⟩ := HKK.out
              obtain ⟨p0, p1, p2, p3⟩ := HX.out
              have := HI.out
              rw [HOL.out, if_neg (by omega), if_pos ⟨rfl, by omega⟩, show I - 3 = k + 1 by omega, show I - 2 = k + 2 by omega, show I - 1 = k + 3 by omega, show I - 4 = k by omega, p0, p1, p2, p3, hy1, hy2, hy3, hy0])
            have HTT := Lib.hid (show turnStep 32 out t = t by unfold turnStep; rw [HOL.out, if_neg (by have := HI.out; omega)])
            clear hy0 hy1 hy2 hy3 hm2
            refine region_draws_tail 24 (by kernel_rfl) (by kernel_rfl) ?_
            simp only [List.take_succ_cons, List.take_zero, List.drop_succ_cons, List.drop_zero]
            repeat (go_big_quiet_step (fail))
            refine wpQuiet_nil ?_
            rintro _ ⟨nq, rfl⟩
            have hrow := RowAt.new (W5.drewN nq) #[.int .i64 (y0.toNat : Int), .int .i64 (y1.toNat : Int), .int .i64 (y2.toNat : Int), .int .i64 (y3.toNat : Int)] 3
            have hkB : Keeps (fun _ => False) V ((W5.drewN nq).alloc (.cells #[.int .i64 (y0.toNat : Int), .int .i64 (y1.toNat : Int), .int .i64 (y2.toNat : Int), .int .i64 (y3.toNat : Int)] 3)) := (HKA.out.drewN nq).alloc _
            have HRow := Lib.hid hrow
            have HKB := Lib.hid hkB
            clear hrow hkB
            clear d0 d1 d2 d3 e0 e1 e2 e3
            go_wp2
            generalize hW6 : (W5.drewN nq).alloc (.cells #[.int .i64 (y0.toNat : Int), .int .i64 (y1.toNat : Int), .int .i64 (y2.toNat : Int), .int .i64 (y3.toNat : Int)] 3) = W6 at *
            obtain ⟨TW, hTW⟩ : ∃ TW, (W5.drewN nq).heap.size = TW := ⟨_, rfl⟩
            have hTW' : W5.heap.size = TW := hTW
            rw [hTW] at HRow
            rw [hTW']
            obtain ⟨csW, hcsW⟩ : ∃ csW : Array Value, #[.int .i64 (y0.toNat : Int), .int .i64 (y1.toNat : Int), .int .i64 (y2.toNat : Int), .int .i64 (y3.toNat : Int)] = csW := ⟨_, rfl⟩
            have HWC := Lib.hid (show ∀ j, j < 4 → csW[j]? = some (.int .i64 ((at8 [y0, y1, y2, y3] j).toNat : Int)) from fun j hj => by
              rw [← hcsW]
              obtain rfl | rfl | rfl | rfl : j = 0 ∨ j = 1 ∨ j = 2 ∨ j = 3 := by omega
              · rfl
              · rfl
              · rfl
              · rfl)
            rw [hcsW] at HRow
            have HRW := HRow
            have HRT := Lib.hid (HR.out.keeps HKB.out (fun h => h))
            have HO6 := Lib.hid (HO.out.keeps HKB.out (fun _ _ h => h))
            have HK6 := Lib.hid (HKR.out.trans HKB.out (fun _ _ h => h))
            obtain ⟨WD, hWD⟩ : ∃ WD : List UInt8, [y0, y1, y2, y3] = WD := ⟨_, rfl⟩
            rw [hWD] at HWD HWC
            clear hW6 hTW hTW' hcsW hWD HRow HKB HKA HR5 HO HKR HR W5
            obtain ⟨p, hp⟩ : ∃ p, 4 * (i - 8) = p := ⟨_, rfl⟩
            obtain ⟨dd, hdd⟩ : ∃ d, i - 8 = d := ⟨_, rfl⟩
            have hpI : p + 32 = I := by omega
            have HP := Lib.hid hpI
            have qd : (i : Int) - 8 = (dd : Int) := by omega
            have qdw : IntKind.i64.wrap ((i : Int) - 8) = (dd : Int) := by rw [qd]; exact i64_f _ (by omega) (by omega)
            have q4 : 4 * (dd : Int) = (p : Int) := by omega
            have q4w : IntKind.i64.wrap (4 * (dd : Int)) = (p : Int) := by rw [q4]; exact i64_f _ (by omega) (by omega)
            have hp240 : p ≤ 240 := by omega
            have HQ := Lib.hid (And.intro qdw q4w)
            clear qd qdw q4 q4w hp hdd hpI
            go_loopw [9, 5] (fun u9 u5 wx => ∃ (j : Nat) (a' : Option Addr) (c' : Nat), j ≤ 4 ∧ u9 = .int .i64 j ∧ u5 = .slice a' (I + j) c' ∧ BOwn wx w.heap.size (.slice a' (I + j) c') (out ++ (List.range j).map (fun q => at8 WD q ^^^ at8 out (p + q))) ∧ RowAt wx TW csW 3 ∧ RowAt wx tb csT 3 ∧ Keeps (fun _ => False) w wx) (fun u9 _ _ => 4 - (intOf u9).toNat)
            case atStart => exact ⟨0, _, _, by omega, rfl, rfl, by simpa using HO6.out, HRW.out, HRT.out, HK6.out⟩
            case round =>
              obtain ⟨j, a', c', hj4, rfl, rfl, hox, hrw, hrt, hkx⟩ := hrel
              clear HO6 HRW HRT HK6
              have hlenj : (out ++ (List.range j).map (fun q => at8 WD q ^^^ at8 out (p + q))).length = I + j := by rw [List.length_append, HOL.out]; simp
              by_cases hjl : j < 4
              · obtain ⟨b9, o9, c9, e9, hc9, -, -, h9c⟩ := BAt.at8 hox.bat (by rw [hlenj]; have := HP.out; omega)
                simp only [Value.slice.injEq] at e9
                obtain ⟨rfl, -, rfl⟩ := e9
                have hcj := h9c (p + j) (by rw [hlenj]; have := HP.out; omega)
                have hat8 : at8 (out ++ (List.range j).map (fun q => at8 WD q ^^^ at8 out (p + q))) (p + j) = at8 out (p + j) := by
                  unfold at8
                  rw [List.getD_eq_getElem?_getD, List.getD_eq_getElem?_getD, List.getElem?_append_left (by rw [HOL.out]; have := HP.out; omega)]
                rw [hat8] at hcj
                have hwj : wr.cell? ⟨TW, j, none⟩ = some (.int .i64 ((at8 WD j).toNat : Int)) := (hrw.cell j).trans (HWC.out j hjl)
                obtain ⟨z, hz⟩ : ∃ z, at8 WD j ^^^ at8 out (p + j) = z := ⟨_, rfl⟩
                have hxx := x64 (at8 WD j) (at8 out (p + j)) z hz
                have hsn : out ++ (List.range (j + 1)).map (fun q => at8 WD q ^^^ at8 out (p + q)) = (out ++ (List.range j).map (fun q => at8 WD q ^^^ at8 out (p + q))) ++ [z] := by
                  rw [List.range_succ, List.map_append, ← List.append_assoc, ← hz]
                  rfl
                have HSN := Lib.hid hsn
                have hlz : ((out ++ (List.range j).map (fun q => at8 WD q ^^^ at8 out (p + q))) ++ [z]).length = I + (j + 1) := by rw [List.length_append, hlenj]; rfl
                have hbl := BAt.one wr.drew (z.toNat : Int) z 5 rfl
                have hka : Keeps (fun _ => False) wr (wr.drew.alloc (.cells #[.int .u8 (z.toNat : Int)] 5)) := ((Keeps.refl (fun _ => False) wr).drew).alloc _
                obtain ⟨v7, w7, hrun, hb7, hk7, -⟩ := run_append_bytes (ty := 25) (hox.keeps hka (fun _ _ h => h)) hbl (by rw [hlenj]; simp; omega) (by have := hka.size; have := hkx.size; omega)
                obtain ⟨a7, c7, rfl, -, -⟩ := BOwn.slice hb7
                rw [hlz] at hb7 hrun
                have hrw7 := (hrw.keeps hka (fun h => h)).keeps hk7 (fun e => own_apart hox hrw e)
                have hrt7 := (hrt.keeps hka (fun h => h)).keeps hk7 (fun e => own_apart hox hrt e)
                have hk7w := (hkx.trans hka (fun _ _ h => h)).from hk7 (fun b hb => (hox.block b hb).1)
                have HRUN := Lib.hid hrun
                have HB7 := Lib.hid hb7
                have HRW7 := Lib.hid hrw7
                have HRT7 := Lib.hid hrt7
                have HK7 := Lib.hid hk7w
                have ql : (p : Int) + (j : Int) < (I : Int) + (j : Int) := by have := HP.out; omega
                have q0 : (0 : Int) ≤ (p : Int) + (j : Int) := by omega
                have hj4I : (j : Int) < 4 := by omega
                have qb := i64_f ((p : Int) + (j : Int)) (by omega) (by omega)
                have hzf := u8_fit z
                have hwb := u8_i64 (at8 out (p + j))
                generalize (at8 WD j).toNat = xa at *
                generalize (at8 out (p + j)).toNat = xb at *
                generalize z.toNat = zn at *
                obtain ⟨pj, hpj⟩ : ∃ pj, p + j = pj := ⟨_, rfl⟩
                have hpjI : (p : Int) + (j : Int) = (pj : Int) := by omega
                rw [hpjI] at qb ql q0
                rw [hpj] at hcj
                clear hz hsn hlz hbl hka hrun hb7 hrw7 hrt7 hk7w hk7 hrw hrt hkx hox hat8 h9c hlenj hpj
                obtain ⟨qdw, q4w⟩ := HQ.out
                have qbw : IntKind.i64.wrap ((p : Int) + (j : Int)) = (pj : Int) := by rw [hpjI]; exact qb
                go_wp2
                refine region_T [17] (fun x => x.cell? ⟨TW, j, none⟩ = some (.int .i64 (xa : Int)) ∧ x.cell? ⟨b9, o9 + pj, none⟩ = some (.int .u8 (xb : Int))) (by kernel_rfl) ?_
                have hC : (fun x : World => x.cell? ⟨TW, j, none⟩ = some (.int .i64 (xa : Int)) ∧ x.cell? ⟨b9, o9 + pj, none⟩ = some (.int .u8 (xb : Int))) wr.drew := ⟨hwj, hcj⟩
                refine anyT_take0 (i := 0) (v := ?_) rfl (by kernel_rfl) (by kernel_rfl) (by kernel_rfl) (by kernel_rfl) (by kernel_rfl) (fun _ _ _ h => h) hC (.inl ⟨by rfl, fun _ _ => ?_⟩) ?_
                rotate_left 1
                · go_simp
                  try with_reducible rfl
                simp only [Act.put, List.getElem_toArray, List.getElem_cons_succ, List.getElem_cons_zero, List.setIfInBounds_toArray, List.set_cons_zero, List.set_cons_succ]
                refine anyT_take0 (i := 1) (v := ?_) rfl (by kernel_rfl) (by kernel_rfl) (by kernel_rfl) (by kernel_rfl) (by kernel_rfl) (fun _ _ _ h => h) hC (.inl ⟨by rfl, fun _ _ => ?_⟩) ?_
                rotate_left 1
                · go_simp
                  try with_reducible rfl
                simp only [Act.put, List.getElem_toArray, List.getElem_cons_succ, List.getElem_cons_zero, List.setIfInBounds_toArray, List.set_cons_zero, List.set_cons_succ]
                refine anyT_take0 (i := 2) (v := ?_) rfl (by kernel_rfl) (by kernel_rfl) (by kernel_rfl) (by kernel_rfl) (by kernel_rfl) (fun _ _ _ h => h) hC (.inl ⟨by rfl, fun _ _ => ?_⟩) ?_
                rotate_left 1
                · go_simp
                  try with_reducible rfl
                simp only [Act.put, List.getElem_toArray, List.getElem_cons_succ, List.getElem_cons_zero, List.setIfInBounds_toArray, List.set_cons_zero, List.set_cons_succ]
                refine anyT_take0 (i := 3) (v := ?_) rfl (by kernel_rfl) (by kernel_rfl) (by kernel_rfl) (by kernel_rfl) (by kernel_rfl) (fun _ _ _ h => h) hC (.inl ⟨by rfl, fun _ _ => ?_⟩) ?_
                rotate_left 1
                · go_simp
                  try with_reducible rfl
                simp only [Act.put, List.getElem_toArray, List.getElem_cons_succ, List.getElem_cons_zero, List.setIfInBounds_toArray, List.set_cons_zero, List.set_cons_succ]
                refine anyT_takeW (i := 4) (v := ?_) rfl (by kernel_rfl) (by kernel_rfl) (by kernel_rfl) (by kernel_rfl) (by kernel_rfl) (by kernel_rfl) (fun _ _ _ h => h) hC (.inl ⟨by rfl, fun w hCw => ?_⟩) ?_
                rotate_left 1
                · dsimp only at hCw
                  go_simp
                  try with_reducible rfl
                simp only [Act.put, List.getElem_toArray, List.getElem_cons_succ, List.getElem_cons_zero, List.setIfInBounds_toArray, List.set_cons_zero, List.set_cons_succ]
                refine anyT_take0 (i := 5) (v := ?_) rfl (by kernel_rfl) (by kernel_rfl) (by kernel_rfl) (by kernel_rfl) (by kernel_rfl) (fun _ _ _ h => h) hC (.inl ⟨by rfl, fun _ _ => ?_⟩) ?_
                rotate_left 1
                · go_simp
                  try with_reducible rfl
                simp only [Act.put, List.getElem_toArray, List.getElem_cons_succ, List.getElem_cons_zero, List.setIfInBounds_toArray, List.set_cons_zero, List.set_cons_succ]
                refine anyT_take0 (i := 6) (v := ?_) rfl (by kernel_rfl) (by kernel_rfl) (by kernel_rfl) (by kernel_rfl) (by kernel_rfl) (fun _ _ _ h => h) hC (.inl ⟨by rfl, fun _ _ => ?_⟩) ?_
                rotate_left 1
                · go_simp
                  try with_reducible rfl
                simp only [Act.put, List.getElem_toArray, List.getElem_cons_succ, List.getElem_cons_zero, List.setIfInBounds_toArray, List.set_cons_zero, List.set_cons_succ]
                refine anyT_take0 (i := 7) (v := ?_) rfl (by kernel_rfl) (by kernel_rfl) (by kernel_rfl) (by kernel_rfl) (by kernel_rfl) (fun _ _ _ h => h) hC (.inl ⟨by rfl, fun _ _ => ?_⟩) ?_
                rotate_left 1
                · go_simp
                  try with_reducible rfl
                simp only [Act.put, List.getElem_toArray, List.getElem_cons_succ, List.getElem_cons_zero, List.setIfInBounds_toArray, List.set_cons_zero, List.set_cons_succ]
                refine anyT_take0 (i := 8) (v := ?_) rfl (by kernel_rfl) (by kernel_rfl) (by kernel_rfl) (by kernel_rfl) (by kernel_rfl) (fun _ _ _ h => h) hC (.inl ⟨by rfl, fun _ _ => ?_⟩) ?_
                rotate_left 1
                · go_simp
                  try with_reducible rfl
                simp only [Act.put, List.getElem_toArray, List.getElem_cons_succ, List.getElem_cons_zero, List.setIfInBounds_toArray, List.set_cons_zero, List.set_cons_succ]
                refine anyT_take0 (i := 9) (v := ?_) rfl (by kernel_rfl) (by kernel_rfl) (by kernel_rfl) (by kernel_rfl) (by kernel_rfl) (fun _ _ _ h => h) hC (.inl ⟨by rfl, fun _ _ => ?_⟩) ?_
                rotate_left 1
                · go_simp
                  try with_reducible rfl
                simp only [Act.put, List.getElem_toArray, List.getElem_cons_succ, List.getElem_cons_zero, List.setIfInBounds_toArray, List.set_cons_zero, List.set_cons_succ]
                refine anyT_take0 (i := 10) (v := ?_) rfl (by kernel_rfl) (by kernel_rfl) (by kernel_rfl) (by kernel_rfl) (by kernel_rfl) (fun _ _ _ h => h) hC (.inl ⟨by rfl, fun _ _ => ?_⟩) ?_
                rotate_left 1
                · go_simp
                  try with_reducible rfl
                simp only [Act.put, List.getElem_toArray, List.getElem_cons_succ, List.getElem_cons_zero, List.setIfInBounds_toArray, List.set_cons_zero, List.set_cons_succ]
                refine anyT_take0 (i := 11) (v := ?_) rfl (by kernel_rfl) (by kernel_rfl) (by kernel_rfl) (by kernel_rfl) (by kernel_rfl) (fun _ _ _ h => h) hC (.inl ⟨by rfl, fun _ _ => ?_⟩) ?_
                rotate_left 1
                · go_simp
                  try with_reducible rfl
                simp only [Act.put, List.getElem_toArray, List.getElem_cons_succ, List.getElem_cons_zero, List.setIfInBounds_toArray, List.set_cons_zero, List.set_cons_succ]
                refine anyT_take0 (i := 12) (v := ?_) rfl (by kernel_rfl) (by kernel_rfl) (by kernel_rfl) (by kernel_rfl) (by kernel_rfl) (fun _ _ _ h => h) hC (.inl ⟨by rfl, fun _ _ => ?_⟩) ?_
                rotate_left 1
                · go_simp
                  try with_reducible rfl
                simp only [Act.put, List.getElem_toArray, List.getElem_cons_succ, List.getElem_cons_zero, List.setIfInBounds_toArray, List.set_cons_zero, List.set_cons_succ]
                refine anyT_takeW (i := 13) (v := ?_) rfl (by kernel_rfl) (by kernel_rfl) (by kernel_rfl) (by kernel_rfl) (by kernel_rfl) (by kernel_rfl) (fun _ _ _ h => h) hC (.inl ⟨by rfl, fun w hCw => ?_⟩) ?_
                rotate_left 1
                · dsimp only at hCw
                  go_simp
                  try with_reducible rfl
                simp only [Act.put, List.getElem_toArray, List.getElem_cons_succ, List.getElem_cons_zero, List.setIfInBounds_toArray, List.set_cons_zero, List.set_cons_succ]
                refine anyT_take0 (i := 14) (v := ?_) rfl (by kernel_rfl) (by kernel_rfl) (by kernel_rfl) (by kernel_rfl) (by kernel_rfl) (fun _ _ _ h => h) hC (.inl ⟨by rfl, fun _ _ => ?_⟩) ?_
                rotate_left 1
                · go_simp
                  try with_reducible rfl
                simp only [Act.put, List.getElem_toArray, List.getElem_cons_succ, List.getElem_cons_zero, List.setIfInBounds_toArray, List.set_cons_zero, List.set_cons_succ]
                refine anyT_take0 (i := 15) (v := ?_) rfl (by kernel_rfl) (by kernel_rfl) (by kernel_rfl) (by kernel_rfl) (by kernel_rfl) (fun _ _ _ h => h) hC (.inl ⟨by rfl, fun _ _ => ?_⟩) ?_
                rotate_left 1
                · go_simp
                  try with_reducible rfl
                simp only [Act.put, List.getElem_toArray, List.getElem_cons_succ, List.getElem_cons_zero, List.setIfInBounds_toArray, List.set_cons_zero, List.set_cons_succ]
                refine anyT_take0 (i := 16) (v := ?_) rfl (by kernel_rfl) (by kernel_rfl) (by kernel_rfl) (by kernel_rfl) (by kernel_rfl) (fun _ _ _ h => h) hC (.inl ⟨by rfl, fun _ _ => ?_⟩) ?_
                rotate_left 1
                · go_simp
                  try with_reducible rfl
                simp only [Act.put, List.getElem_toArray, List.getElem_cons_succ, List.getElem_cons_zero, List.setIfInBounds_toArray, List.set_cons_zero, List.set_cons_succ]
                refine anyT_tail (k := 17) (by rfl) (by kernel_rfl) (by simp) rfl rfl (by kernel_rfl) ?_
                go_wp2_with (at_builtin; refine Lib.wpList_append_run _ rfl _ _ _ _ rfl _ _ rfl rfl _ _ HRUN.out ?_)
                go_roundw
                case rel => first | exact ⟨j + 1, _, _, hjl, by go_num, rfl, by rw [HSN.out]; exact HB7.out, HRW7.out, HRT7.out, HK7.out⟩ | exact ⟨j + 1, hjl, rfl, _, _, ⟨rfl, rfl, rfl⟩, by rw [HSN.out]; exact HB7.out, HRW7.out, HRT7.out, HK7.out⟩
                case measure => clear qdw q4w qbw qb hzf hwb; simp [intOf]; omega
              · obtain rfl : j = 4 := by omega
                have HOX := Lib.hid hox
                have HRX := Lib.hid hrt
                have HKX := Lib.hid hkx
                have hfin : keysF 32 f (out ++ (List.range 4).map (fun q => at8 WD q ^^^ at8 out (p + q))) t = keysOf key := by
                  rw [← HF.out]
                  show _ = keysF 32 f (keyStep 32 out t) (turnStep 32 out t)
                  rw [HTT.out]
                  unfold keyStep
                  rw [HWD.out, HOL.out, show I - 32 = p by have := HP.out; omega]
                have HFIN := Lib.hid hfin
                have hl9 : (out ++ (List.range 4).map (fun q => at8 WD q ^^^ at8 out (p + q))).length = 4 * (i + 1) := by rw [hlenj, ← HI.out]; omega
                have HL9 := Lib.hid hl9
                have hI4 : I + 4 = 4 * (i + 1) := by rw [← HI.out]; omega
                rw [hI4] at HOX ⊢
                clear hox hrt hrw hkx hfin hlenj hl9 hI4
                go_wp2
                go_roundw
                case rel => exact ⟨f, i + 1, _, t, _, _, rfl, rfl, by go_num, HL9.out, by omega, by omega, HOX.out, HRX.out, HFIN.out, HKX.out⟩
                case measure => simp [intOf]; omega
        · have hmJ : (32 : Int) = 16 ∨ ¬ (i : Int) % 8 = 4 := by omega
          have HWD := Lib.hid (show keyWord 32 out t = [x0, x1, x2, x3] by
            unfold keyWord
            obtain ⟨q0, q1, q2, q3⟩ := HKK.out
            obtain ⟨p0, p1, p2, p3⟩ := HX.out
            have := HI.out
            rw [HOL.out, if_neg (by omega), if_neg (by rintro ⟨h1, h2⟩; exact hm2 ⟨h1, by omega⟩), show I - 3 = k + 1 by omega, show I - 2 = k + 2 by omega, show I - 1 = k + 3 by omega, show I - 4 = k by omega, p0, p1, p2, p3])
          have HTT := Lib.hid (show turnStep 32 out t = t by unfold turnStep; rw [HOL.out, if_neg (by have := HI.out; omega)])
          try have h8n : ¬ (i : Int) % 8 = 4 := by omega
          clear hm2 hmJ
          go_wp2_with fail
          generalize hW5 : (V.drewN nq).alloc (.cells #[.int .i64 (x0.toNat : Int), .int .i64 (x1.toNat : Int), .int .i64 (x2.toNat : Int), .int .i64 (x3.toNat : Int)] 3) = W5 at *
          obtain ⟨TW, hTW⟩ : ∃ TW, (V.drewN nq).heap.size = TW := ⟨_, rfl⟩
          have hTW' : V.heap.size = TW := hTW
          rw [hTW] at HRow
          rw [hTW']
          obtain ⟨csW, hcsW⟩ : ∃ csW : Array Value, #[.int .i64 (x0.toNat : Int), .int .i64 (x1.toNat : Int), .int .i64 (x2.toNat : Int), .int .i64 (x3.toNat : Int)] = csW := ⟨_, rfl⟩
          have HWC := Lib.hid (show ∀ j, j < 4 → csW[j]? = some (.int .i64 ((at8 [x0, x1, x2, x3] j).toNat : Int)) from fun j hj => by
            rw [← hcsW]
            obtain rfl | rfl | rfl | rfl : j = 0 ∨ j = 1 ∨ j = 2 ∨ j = 3 := by omega
            · rfl
            · rfl
            · rfl
            · rfl)
          rw [hcsW] at HRow
          have HRW := HRow
          have HRT := Lib.hid (HR.out.keeps HKA.out (fun h => h))
          have HO6 := Lib.hid (HO.out.keeps HKA.out (fun _ _ h => h))
          have HK6 := Lib.hid (HKR.out.trans HKA.out (fun _ _ h => h))
          obtain ⟨WD, hWD⟩ : ∃ WD : List UInt8, [x0, x1, x2, x3] = WD := ⟨_, rfl⟩
          rw [hWD] at HWD HWC
          clear hW5 hTW hTW' hcsW hWD HRow HKA HO HKR HR
          obtain ⟨p, hp⟩ : ∃ p, 4 * (i - 8) = p := ⟨_, rfl⟩
          obtain ⟨dd, hdd⟩ : ∃ d, i - 8 = d := ⟨_, rfl⟩
          have hpI : p + 32 = I := by omega
          have HP := Lib.hid hpI
          have qd : (i : Int) - 8 = (dd : Int) := by omega
          have qdw : IntKind.i64.wrap ((i : Int) - 8) = (dd : Int) := by rw [qd]; exact i64_f _ (by omega) (by omega)
          have q4 : 4 * (dd : Int) = (p : Int) := by omega
          have q4w : IntKind.i64.wrap (4 * (dd : Int)) = (p : Int) := by rw [q4]; exact i64_f _ (by omega) (by omega)
          have hp240 : p ≤ 240 := by omega
          have HQ := Lib.hid (And.intro qdw q4w)
          clear qd qdw q4 q4w hp hdd hpI
          go_loopw [9, 5] (fun u9 u5 wx => ∃ (j : Nat) (a' : Option Addr) (c' : Nat), j ≤ 4 ∧ u9 = .int .i64 j ∧ u5 = .slice a' (I + j) c' ∧ BOwn wx w.heap.size (.slice a' (I + j) c') (out ++ (List.range j).map (fun q => at8 WD q ^^^ at8 out (p + q))) ∧ RowAt wx TW csW 3 ∧ RowAt wx tb csT 3 ∧ Keeps (fun _ => False) w wx) (fun u9 _ _ => 4 - (intOf u9).toNat)
          case atStart => exact ⟨0, _, _, by omega, rfl, rfl, by simpa using HO6.out, HRW.out, HRT.out, HK6.out⟩
          case round =>
            obtain ⟨j, a', c', hj4, rfl, rfl, hox, hrw, hrt, hkx⟩ := hrel
            clear HO6 HRW HRT HK6
            have hlenj : (out ++ (List.range j).map (fun q => at8 WD q ^^^ at8 out (p + q))).length = I + j := by rw [List.length_append, HOL.out]; simp
            by_cases hjl : j < 4
            · obtain ⟨b9, o9, c9, e9, hc9, -, -, h9c⟩ := BAt.at8 hox.bat (by rw [hlenj]; have := HP.out; omega)
              simp only [Value.slice.injEq] at e9
              obtain ⟨rfl, -, rfl⟩ := e9
              have hcj := h9c (p + j) (by rw [hlenj]; have := HP.out; omega)
              have hat8 : at8 (out ++ (List.range j).map (fun q => at8 WD q ^^^ at8 out (p + q))) (p + j) = at8 out (p + j) := by
                unfold at8
                rw [List.getD_eq_getElem?_getD, List.getD_eq_getElem?_getD, List.getElem?_append_left (by rw [HOL.out]; have := HP.out; omega)]
              rw [hat8] at hcj
              have hwj : wr.cell? ⟨TW, j, none⟩ = some (.int .i64 ((at8 WD j).toNat : Int)) := (hrw.cell j).trans (HWC.out j hjl)
              obtain ⟨z, hz⟩ : ∃ z, at8 WD j ^^^ at8 out (p + j) = z := ⟨_, rfl⟩
              have hxx := x64 (at8 WD j) (at8 out (p + j)) z hz
              have hsn : out ++ (List.range (j + 1)).map (fun q => at8 WD q ^^^ at8 out (p + q)) = (out ++ (List.range j).map (fun q => at8 WD q ^^^ at8 out (p + q))) ++ [z] := by
                rw [List.range_succ, List.map_append, ← List.append_assoc, ← hz]
                rfl
              have HSN := Lib.hid hsn
              have hlz : ((out ++ (List.range j).map (fun q => at8 WD q ^^^ at8 out (p + q))) ++ [z]).length = I + (j + 1) := by rw [List.length_append, hlenj]; rfl
              have hbl := BAt.one wr.drew (z.toNat : Int) z 5 rfl
              have hka : Keeps (fun _ => False) wr (wr.drew.alloc (.cells #[.int .u8 (z.toNat : Int)] 5)) := ((Keeps.refl (fun _ => False) wr).drew).alloc _
              obtain ⟨v7, w7, hrun, hb7, hk7, -⟩ := run_append_bytes (ty := 25) (hox.keeps hka (fun _ _ h => h)) hbl (by rw [hlenj]; simp; omega) (by have := hka.size; have := hkx.size; omega)
              obtain ⟨a7, c7, rfl, -, -⟩ := BOwn.slice hb7
              rw [hlz] at hb7 hrun
              have hrw7 := (hrw.keeps hka (fun h => h)).keeps hk7 (fun e => own_apart hox hrw e)
              have hrt7 := (hrt.keeps hka (fun h => h)).keeps hk7 (fun e => own_apart hox hrt e)
              have hk7w := (hkx.trans hka (fun _ _ h => h)).from hk7 (fun b hb => (hox.block b hb).1)
              have HRUN := Lib.hid hrun
              have HB7 := Lib.hid hb7
              have HRW7 := Lib.hid hrw7
              have HRT7 := Lib.hid hrt7
              have HK7 := Lib.hid hk7w
              have ql : (p : Int) + (j : Int) < (I : Int) + (j : Int) := by have := HP.out; omega
              have q0 : (0 : Int) ≤ (p : Int) + (j : Int) := by omega
              have hj4I : (j : Int) < 4 := by omega
              have qb := i64_f ((p : Int) + (j : Int)) (by omega) (by omega)
              have hzf := u8_fit z
              have hwb := u8_i64 (at8 out (p + j))
              generalize (at8 WD j).toNat = xa at *
              generalize (at8 out (p + j)).toNat = xb at *
              generalize z.toNat = zn at *
              obtain ⟨pj, hpj⟩ : ∃ pj, p + j = pj := ⟨_, rfl⟩
              have hpjI : (p : Int) + (j : Int) = (pj : Int) := by omega
              rw [hpjI] at qb ql q0
              rw [hpj] at hcj
              clear hz hsn hlz hbl hka hrun hb7 hrw7 hrt7 hk7w hk7 hrw hrt hkx hox hat8 h9c hlenj hpj
              obtain ⟨qdw, q4w⟩ := HQ.out
              have qbw : IntKind.i64.wrap ((p : Int) + (j : Int)) = (pj : Int) := by rw [hpjI]; exact qb
              go_wp2
              refine region_T [17] (fun x => x.cell? ⟨TW, j, none⟩ = some (.int .i64 (xa : Int)) ∧ x.cell? ⟨b9, o9 + pj, none⟩ = some (.int .u8 (xb : Int))) (by kernel_rfl) ?_
              have hC : (fun x : World => x.cell? ⟨TW, j, none⟩ = some (.int .i64 (xa : Int)) ∧ x.cell? ⟨b9, o9 + pj, none⟩ = some (.int .u8 (xb : Int))) wr.drew := ⟨hwj, hcj⟩
              refine anyT_take0 (i := 0) (v := ?_) rfl (by kernel_rfl) (by kernel_rfl) (by kernel_rfl) (by kernel_rfl) (by kernel_rfl) (fun _ _ _ h => h) hC (.inl ⟨by rfl, fun _ _ => ?_⟩) ?_
              rotate_left 1
              · go_simp
                try with_reducible rfl
              simp only [Act.put, List.getElem_toArray, List.getElem_cons_succ, List.getElem_cons_zero, List.setIfInBounds_toArray, List.set_cons_zero, List.set_cons_succ]
              refine anyT_take0 (i := 1) (v := ?_) rfl (by kernel_rfl) (by kernel_rfl) (by kernel_rfl) (by kernel_rfl) (by kernel_rfl) (fun _ _ _ h => h) hC (.inl ⟨by rfl, fun _ _ => ?_⟩) ?_
              rotate_left 1
              · go_simp
                try with_reducible rfl
              simp only [Act.put, List.getElem_toArray, List.getElem_cons_succ, List.getElem_cons_zero, List.setIfInBounds_toArray, List.set_cons_zero, List.set_cons_succ]
              refine anyT_take0 (i := 2) (v := ?_) rfl (by kernel_rfl) (by kernel_rfl) (by kernel_rfl) (by kernel_rfl) (by kernel_rfl) (fun _ _ _ h => h) hC (.inl ⟨by rfl, fun _ _ => ?_⟩) ?_
              rotate_left 1
              · go_simp
                try with_reducible rfl
              simp only [Act.put, List.getElem_toArray, List.getElem_cons_succ, List.getElem_cons_zero, List.setIfInBounds_toArray, List.set_cons_zero, List.set_cons_succ]
              refine anyT_take0 (i := 3) (v := ?_) rfl (by kernel_rfl) (by kernel_rfl) (by kernel_rfl) (by kernel_rfl) (by kernel_rfl) (fun _ _ _ h => h) hC (.inl ⟨by rfl, fun _ _ => ?_⟩) ?_
              rotate_left 1
              · go_simp
                try with_reducible rfl
              simp only [Act.put, List.getElem_toArray, List.getElem_cons_succ, List.getElem_cons_zero, List.setIfInBounds_toArray, List.set_cons_zero, List.set_cons_succ]
              refine anyT_takeW (i := 4) (v := ?_) rfl (by kernel_rfl) (by kernel_rfl) (by kernel_rfl) (by kernel_rfl) (by kernel_rfl) (by kernel_rfl) (fun _ _ _ h => h) hC (.inl ⟨by rfl, fun w hCw => ?_⟩) ?_
              rotate_left 1
              · dsimp only at hCw
                go_simp
                try with_reducible rfl
              simp only [Act.put, List.getElem_toArray, List.getElem_cons_succ, List.getElem_cons_zero, List.setIfInBounds_toArray, List.set_cons_zero, List.set_cons_succ]
              refine anyT_take0 (i := 5) (v := ?_) rfl (by kernel_rfl) (by kernel_rfl) (by kernel_rfl) (by kernel_rfl) (by kernel_rfl) (fun _ _ _ h => h) hC (.inl ⟨by rfl, fun _ _ => ?_⟩) ?_
              rotate_left 1
              · go_simp
                try with_reducible rfl
              simp only [Act.put, List.getElem_toArray, List.getElem_cons_succ, List.getElem_cons_zero, List.setIfInBounds_toArray, List.set_cons_zero, List.set_cons_succ]
              refine anyT_take0 (i := 6) (v := ?_) rfl (by kernel_rfl) (by kernel_rfl) (by kernel_rfl) (by kernel_rfl) (by kernel_rfl) (fun _ _ _ h => h) hC (.inl ⟨by rfl, fun _ _ => ?_⟩) ?_
              rotate_left 1
              · go_simp
                try with_reducible rfl
              simp only [Act.put, List.getElem_toArray, List.getElem_cons_succ, List.getElem_cons_zero, List.setIfInBounds_toArray, List.set_cons_zero, List.set_cons_succ]
              refine anyT_take0 (i := 7) (v := ?_) rfl (by kernel_rfl) (by kernel_rfl) (by kernel_rfl) (by kernel_rfl) (by kernel_rfl) (fun _ _ _ h => h) hC (.inl ⟨by rfl, fun _ _ => ?_⟩) ?_
              rotate_left 1
              · go_simp
                try with_reducible rfl
              simp only [Act.put, List.getElem_toArray, List.getElem_cons_succ, List.getElem_cons_zero, List.setIfInBounds_toArray, List.set_cons_zero, List.set_cons_succ]
              refine anyT_take0 (i := 8) (v := ?_) rfl (by kernel_rfl) (by kernel_rfl) (by kernel_rfl) (by kernel_rfl) (by kernel_rfl) (fun _ _ _ h => h) hC (.inl ⟨by rfl, fun _ _ => ?_⟩) ?_
              rotate_left 1
              · go_simp
                try with_reducible rfl
              simp only [Act.put, List.getElem_toArray, List.getElem_cons_succ, List.getElem_cons_zero, List.setIfInBounds_toArray, List.set_cons_zero, List.set_cons_succ]
              refine anyT_take0 (i := 9) (v := ?_) rfl (by kernel_rfl) (by kernel_rfl) (by kernel_rfl) (by kernel_rfl) (by kernel_rfl) (fun _ _ _ h => h) hC (.inl ⟨by rfl, fun _ _ => ?_⟩) ?_
              rotate_left 1
              · go_simp
                try with_reducible rfl
              simp only [Act.put, List.getElem_toArray, List.getElem_cons_succ, List.getElem_cons_zero, List.setIfInBounds_toArray, List.set_cons_zero, List.set_cons_succ]
              refine anyT_take0 (i := 10) (v := ?_) rfl (by kernel_rfl) (by kernel_rfl) (by kernel_rfl) (by kernel_rfl) (by kernel_rfl) (fun _ _ _ h => h) hC (.inl ⟨by rfl, fun _ _ => ?_⟩) ?_
              rotate_left 1
              · go_simp
                try with_reducible rfl
              simp only [Act.put, List.getElem_toArray, List.getElem_cons_succ, List.getElem_cons_zero, List.setIfInBounds_toArray, List.set_cons_zero, List.set_cons_succ]
              refine anyT_take0 (i := 11) (v := ?_) rfl (by kernel_rfl) (by kernel_rfl) (by kernel_rfl) (by kernel_rfl) (by kernel_rfl) (fun _ _ _ h => h) hC (.inl ⟨by rfl, fun _ _ => ?_⟩) ?_
              rotate_left 1
              · go_simp
                try with_reducible rfl
              simp only [Act.put, List.getElem_toArray, List.getElem_cons_succ, List.getElem_cons_zero, List.setIfInBounds_toArray, List.set_cons_zero, List.set_cons_succ]
              refine anyT_take0 (i := 12) (v := ?_) rfl (by kernel_rfl) (by kernel_rfl) (by kernel_rfl) (by kernel_rfl) (by kernel_rfl) (fun _ _ _ h => h) hC (.inl ⟨by rfl, fun _ _ => ?_⟩) ?_
              rotate_left 1
              · go_simp
                try with_reducible rfl
              simp only [Act.put, List.getElem_toArray, List.getElem_cons_succ, List.getElem_cons_zero, List.setIfInBounds_toArray, List.set_cons_zero, List.set_cons_succ]
              refine anyT_takeW (i := 13) (v := ?_) rfl (by kernel_rfl) (by kernel_rfl) (by kernel_rfl) (by kernel_rfl) (by kernel_rfl) (by kernel_rfl) (fun _ _ _ h => h) hC (.inl ⟨by rfl, fun w hCw => ?_⟩) ?_
              rotate_left 1
              · dsimp only at hCw
                go_simp
                try with_reducible rfl
              simp only [Act.put, List.getElem_toArray, List.getElem_cons_succ, List.getElem_cons_zero, List.setIfInBounds_toArray, List.set_cons_zero, List.set_cons_succ]
              refine anyT_take0 (i := 14) (v := ?_) rfl (by kernel_rfl) (by kernel_rfl) (by kernel_rfl) (by kernel_rfl) (by kernel_rfl) (fun _ _ _ h => h) hC (.inl ⟨by rfl, fun _ _ => ?_⟩) ?_
              rotate_left 1
              · go_simp
                try with_reducible rfl
              simp only [Act.put, List.getElem_toArray, List.getElem_cons_succ, List.getElem_cons_zero, List.setIfInBounds_toArray, List.set_cons_zero, List.set_cons_succ]
              refine anyT_take0 (i := 15) (v := ?_) rfl (by kernel_rfl) (by kernel_rfl) (by kernel_rfl) (by kernel_rfl) (by kernel_rfl) (fun _ _ _ h => h) hC (.inl ⟨by rfl, fun _ _ => ?_⟩) ?_
              rotate_left 1
              · go_simp
                try with_reducible rfl
              simp only [Act.put, List.getElem_toArray, List.getElem_cons_succ, List.getElem_cons_zero, List.setIfInBounds_toArray, List.set_cons_zero, List.set_cons_succ]
              refine anyT_take0 (i := 16) (v := ?_) rfl (by kernel_rfl) (by kernel_rfl) (by kernel_rfl) (by kernel_rfl) (by kernel_rfl) (fun _ _ _ h => h) hC (.inl ⟨by rfl, fun _ _ => ?_⟩) ?_
              rotate_left 1
              · go_simp
                try with_reducible rfl
              simp only [Act.put, List.getElem_toArray, List.getElem_cons_succ, List.getElem_cons_zero, List.setIfInBounds_toArray, List.set_cons_zero, List.set_cons_succ]
              refine anyT_tail (k := 17) (by rfl) (by kernel_rfl) (by simp) rfl rfl (by kernel_rfl) ?_
              go_wp2_with (at_builtin; refine Lib.wpList_append_run _ rfl _ _ _ _ rfl _ _ rfl rfl _ _ HRUN.out ?_)
              go_roundw
              case rel => first | exact ⟨j + 1, _, _, hjl, by go_num, rfl, by rw [HSN.out]; exact HB7.out, HRW7.out, HRT7.out, HK7.out⟩ | exact ⟨j + 1, hjl, rfl, _, _, ⟨rfl, rfl, rfl⟩, by rw [HSN.out]; exact HB7.out, HRW7.out, HRT7.out, HK7.out⟩
              case measure => clear qdw q4w qbw qb hzf hwb; simp [intOf]; omega
            · obtain rfl : j = 4 := by omega
              have HOX := Lib.hid hox
              have HRX := Lib.hid hrt
              have HKX := Lib.hid hkx
              have hfin : keysF 32 f (out ++ (List.range 4).map (fun q => at8 WD q ^^^ at8 out (p + q))) t = keysOf key := by
                rw [← HF.out]
                show _ = keysF 32 f (keyStep 32 out t) (turnStep 32 out t)
                rw [HTT.out]
                unfold keyStep
                rw [HWD.out, HOL.out, show I - 32 = p by have := HP.out; omega]
              have HFIN := Lib.hid hfin
              have hl9 : (out ++ (List.range 4).map (fun q => at8 WD q ^^^ at8 out (p + q))).length = 4 * (i + 1) := by rw [hlenj, ← HI.out]; omega
              have HL9 := Lib.hid hl9
              have hI4 : I + 4 = 4 * (i + 1) := by rw [← HI.out]; omega
              rw [hI4] at HOX ⊢
              clear hox hrt hrw hkx hfin hlenj hl9 hI4
              go_wp2
              go_roundw
              case rel => exact ⟨f, i + 1, _, t, _, _, rfl, rfl, by go_num, HL9.out, by omega, by omega, HOX.out, HRX.out, HFIN.out, HKX.out⟩
              case measure => simp [intOf]; omega
end Go.Proofs.YtekaoknpjpbjgaaDoor

/-! The reference's Keys. -/
namespace Go.Proofs.YtekaoknpjpbjgaaDoor
set_option linter.unusedVariables false
set_option linter.unusedSimpArgs false
open Go.RowKit
theorem rkeys8_any (kv : Value) (key : List UInt8) (w : World) (hk : BRd w kv key) (hkl : key.length = 16 ∨ key.length = 32) :
    Calls Tryd.prog 54 #[kv] w (Gives (keysOf key) w) := by
  rcases hkl with h | h
  · exact rkeys16_any kv key w hk h
  · exact rkeys32_any kv key w hk h
end Go.Proofs.YtekaoknpjpbjgaaDoor
