/- redoubtref10.Round: a block into a state, in ints. -/
import Derived.Test.YtkcnllbfinjaiaaDoorRWords
import Derived.Test.YtkcnllbfinjaiaaDoorRConst
namespace Go.Proofs.YtkcnllbfinjaiaaDoor
open Go.RowKit

theorem ch_eq (e f g : UInt32) : (e &&& f) ||| (~~~e &&& g) = (e &&& f) ^^^ (~~~e &&& g) := by
  apply UInt32.eq_of_toBitVec_eq
  ext i hi
  simp
  cases e.toBitVec[i] <;> simp
theorem maj_eq (a b c : UInt32) : (a &&& (b ||| c)) ||| (b &&& c) = (a &&& b) ^^^ (a &&& c) ^^^ (b &&& c) := by
  apply UInt32.eq_of_toBitVec_eq
  ext i hi
  simp
  cases a.toBitVec[i] <;> cases b.toBitVec[i] <;> cases c.toBitVec[i] <;> rfl
theorem szs_length (s : S8) : (szs s).length = 8 := rfl

def mixL (s r : S8) (k : Nat) : List UInt32 := (List.range 8).map fun i => if i < k then (words8 r).getD i 0 + (words8 s).getD i 0 else (words8 r).getD i 0
theorem mixL_len (s r : S8) (k : Nat) : (mixL s r k).length = 8 := by simp [mixL]
theorem mixL_get (s r : S8) (k : Nat) (hk : k < 8) : (mixL s r k).getD k 0 = (words8 r).getD k 0 := by
  simp [mixL, hk]
theorem mixL_step (s r : S8) (k : Nat) (hk : k < 8) : (mixL s r k).set k ((words8 r).getD k 0 + (words8 s).getD k 0) = mixL s r (k + 1) := by
  apply List.ext_getElem?
  intro j
  by_cases hj : j < 8
  · by_cases hjk : k = j
    · subst hjk
      rw [List.getElem?_set_self (by rw [mixL_len]; exact hj)]
      simp [mixL, hj]
    · rw [List.getElem?_set_ne hjk]
      simp only [mixL, List.getElem?_map, List.getElem?_range hj, Option.map_some]
      by_cases h1 : j < k
      · rw [if_pos h1, if_pos (by omega)]
      · rw [if_neg h1, if_neg (by omega)]
  · rw [List.getElem?_eq_none (by rw [List.length_set, mixL_len]; omega), List.getElem?_eq_none (by rw [mixL_len]; omega)]
theorem mixL_none (s r : S8) : mixL s r 0 = words8 r := rfl
theorem mixL_full (s : S8) (l : List UInt8) : mixL s (rnds (wlist l 64) s 64) 8 = words8 (addS s l) := rfl
theorem zs_set (l : List UInt32) (k : Nat) (x : UInt32) (z : Int) (h : z = (x.toNat : Int)) : (zs l).set k z = zs (l.set k x) := by
  rw [h, zs, zs, List.map_set]

set_option maxRecDepth 100000 in
set_option maxHeartbeats 4000000 in
theorem rround_any (sv bv : Value) (s : S8) (l : List UInt8) (w : World) (hs : ZRd w sv (szs s)) (hb : BRd w bv l) (hl : l.length = 64) :
    Calls Tryd.prog 29 #[sv, bv] w fun e w' => ∃ x, e = .returned (.tuple #[x, .int .i64 0]) ∧ ZOwn w' w.heap.size x (szs (addS s l)) ∧ Keeps (fun _ => False) w w' := by
  obtain ⟨sb, so, sc, rfl, hsc, hsm, hsb, hscell⟩ := ZAt.get hs (by rw [szs_length]; omega)
  rw [szs_length] at hsc ⊢
  rw [szs_length] at hs
  have hst : ∀ w', ZRd w' (.slice (some ⟨sb, so, none⟩) 8 sc) (zs (words8 s)) → Calls Tryd.prog 33 #[.slice (some ⟨sb, so, none⟩) 8 sc] w' fun e w'' => e = .returned (.bool true) ∧ w' = w'' := fun w' h => state_any _ (words8 s) w' h rfl
  have hscell' : ∀ i, i < 8 → w.cell? ⟨sb, so + i, none⟩ = some (.int .i64 (((words8 s).getD i 0).toNat : Int)) := fun i hi => by
    rw [hscell i (by rw [szs_length]; exact hi)]
    exact congrArg (fun z => some (Value.int .i64 z)) (zs_get (words8 s) i hi)
  simp only [maxLen] at hsm
  clear hscell
  go_enter Tryd.func29, Tryd.ntmps29
  go_wp2_with fail
  refine (rwords_any _ l _ hb hl).mono ?_
  rintro e w1 ⟨wv, rfl, hw1, hk1⟩
  go_wp2_with fail
  refine (hst _ (hs.keeps hk1)).mono ?_
  rintro e w1' ⟨rfl, rfl⟩
  go_wp2_with fail
  refine (consts_any _).mono ?_
  rintro e w2 ⟨kv, rfl, hc2, hk2⟩
  have hkA := hk1.trans hk2 (fun _ _ h => h)
  obtain ⟨wg, wo, wc, rfl, hwc, hwm, hwg⟩ := hw1.place (by rw [zs_length, wlist_length]; omega)
  have hW2 := (hw1.keeps hk2 (fun _ _ h => h))
  obtain ⟨kg, ko, kc, rfl, hkc, hkm, hkg⟩ := hc2.place (by decide)
  rw [zs_length, wlist_length] at hwc hW2 ⊢
  have hk72 : kzs.length = 72 := by decide
  rw [hk72] at hkc hc2 ⊢
  simp only [maxLen] at hwm hkm
  have hwcell : ∀ i, i < 64 → w2.cell? ⟨wg, wo + i, none⟩ = some (.int .i64 (((wlist l 64).getD i 0).toNat : Int)) := fun i hi => by
    rw [(hW2.at i (by rw [zs_length, wlist_length]; exact hi)).1, zs_get]
  have hkcell : ∀ i, i < 64 → w2.cell? ⟨kg, ko + i, none⟩ = some (.int .i64 ((kAt i).toNat : Int)) := fun i hi => by
    rw [(hc2.at i (by rw [hk72]; omega)).1]
    exact congrArg (fun z => some (Value.int .i64 z)) (zs_get kList i (by rw [show (zs kList).length = 72 from hk72]; omega))
  have HS := Lib.hid hscell'
  clear hk72 hc2 hw1 hk1 hk2 hW2 hst hscell'
  obtain ⟨v3, w3, hrun, ho3, hk3, -⟩ := run_append_ints (ty := 56) (ZOwn.nil w2 w.heap.size) (hs.keeps hkA) (by rw [szs_length]; decide) hkA.size
  have HR := Lib.hid hrun
  clear hrun
  go_wp2_with (at_builtin; refine Lib.wpList_append_run _ rfl _ _ _ _ rfl _ _ rfl rfl _ _ HR.out ?_)
  have hk3' : Keeps (fun _ => False) w2 w3 := hk3.mono fun b _ h => by simp [Value.ownBlock] at h
  have hwcell' : ∀ i, i < 64 → w3.cell? ⟨wg, wo + i, none⟩ = some (.int .i64 (((wlist l 64).getD i 0).toNat : Int)) := fun i hi => hk3'.cell (hwcell i hi) (fun h => h)
  have hkcell' : ∀ i, i < 64 → w3.cell? ⟨kg, ko + i, none⟩ = some (.int .i64 ((kAt i).toNat : Int)) := fun i hi => hk3'.cell (hkcell i hi) (fun h => h)
  have hkB := hkA.trans hk3' (fun _ _ h => h)
  rw [List.nil_append] at ho3
  clear hwcell hkcell hk3 hk3' hkA HR
  have HW := Lib.hid hwcell'
  have HK := Lib.hid hkcell'
  clear hwcell' hkcell'
  go_loopw [9, 10] (fun u9 u10 wr => ∃ k : Nat, k ≤ 64 ∧ u10 = .int .i64 k ∧ ZOwn wr w.heap.size u9 (szs (rnds (wlist l 64) s k)) ∧ Keeps (fun _ => False) w wr ∧ Keeps (fun _ => False) w3 wr) (fun _ u10 _ => 64 - (intOf u10).toNat)
  case atStart => exact ⟨0, by omega, rfl, ho3, hkB, Keeps.refl _ _⟩
  case round =>
    obtain ⟨k, hk, rfl, ho, hkw, hkv⟩ := hrel
    obtain ⟨g, o9, c9, rfl, hc9, hm9, hg9⟩ := ho.place (by rw [szs_length]; omega)
    rw [szs_length] at hc9 ho ⊢
    simp only [maxLen] at hm9
    by_cases hlt : k < 64
    · have cw := hkv.cell (HW.out k hlt) (fun h => h)
      have ck := hkv.cell (HK.out k hlt) (fun h => h)
      have hlt' : (k : Int) < 64 := by omega
      have hlt2 : (k : Int) < 72 := by omega
      obtain ⟨X, hX⟩ : ∃ X, (wlist l 64).getD k 0 = X := ⟨_, rfl⟩
      obtain ⟨Y, hY⟩ : ∃ Y, kAt k = Y := ⟨_, rfl⟩
      have hstep : rnds (wlist l 64) s (k + 1) = ⟨tsum (rnds (wlist l 64) s k) Y X + usum (rnds (wlist l 64) s k), (rnds (wlist l 64) s k).a, (rnds (wlist l 64) s k).b, (rnds (wlist l 64) s k).c, (rnds (wlist l 64) s k).d + tsum (rnds (wlist l 64) s k) Y X, (rnds (wlist l 64) s k).e, (rnds (wlist l 64) s k).f, (rnds (wlist l 64) s k).g⟩ := by rw [← hX, ← hY]; rfl
      rw [hX] at cw
      rw [hY] at ck
      obtain ⟨r, hr⟩ : ∃ r, rnds (wlist l 64) s k = r := ⟨_, rfl⟩
      rw [hr] at ho hstep
      obtain ⟨ra, rb, rc, rd, re, rf, rg, rh⟩ := r
      have d : ∀ i (hi : i < 8), wr.cell? ⟨g, o9 + i, none⟩ = some (.int .i64 ((szs ⟨ra, rb, rc, rd, re, rf, rg, rh⟩)[i]'(by rw [szs_length]; exact hi))) := fun i hi => (ho.at i (by rw [szs_length]; exact hi)).1
      have d0 : wr.cell? ⟨g, o9, none⟩ = some (.int .i64 (ra.toNat : Int)) := d 0 (by omega)
      have d1 : wr.cell? ⟨g, o9 + 1, none⟩ = some (.int .i64 (rb.toNat : Int)) := d 1 (by omega)
      have d2 : wr.cell? ⟨g, o9 + 2, none⟩ = some (.int .i64 (rc.toNat : Int)) := d 2 (by omega)
      have d3 : wr.cell? ⟨g, o9 + 3, none⟩ = some (.int .i64 (rd.toNat : Int)) := d 3 (by omega)
      have d4 : wr.cell? ⟨g, o9 + 4, none⟩ = some (.int .i64 (re.toNat : Int)) := d 4 (by omega)
      have d5 : wr.cell? ⟨g, o9 + 5, none⟩ = some (.int .i64 (rf.toNat : Int)) := d 5 (by omega)
      have d6 : wr.cell? ⟨g, o9 + 6, none⟩ = some (.int .i64 (rg.toNat : Int)) := d 6 (by omega)
      have d7 : wr.cell? ⟨g, o9 + 7, none⟩ = some (.int .i64 (rh.toNat : Int)) := d 7 (by omega)
      have xE1 := i_xor (rotr re 6) (rotr re 11)
      have xE2 := i_xor (rotr re 6 ^^^ rotr re 11) (rotr re 25)
      have xA1 := i_xor (rotr ra 2) (rotr ra 13)
      have xA2 := i_xor (rotr ra 2 ^^^ rotr ra 13) (rotr ra 22)
      have xC0 := i_not re
      have xC1 := i_and re rf
      have xC2 := i_and (~~~re) rg
      have xC3 := i_xor (re &&& rf) (~~~re &&& rg)
      have xM1 := i_and ra rb
      have xM2 := i_and ra rc
      have xM3 := i_and rb rc
      have xM4 := i_xor (ra &&& rb) (ra &&& rc)
      have xM5 := i_xor (ra &&& rb ^^^ ra &&& rc) (rb &&& rc)
      have hT : tsum ⟨ra, rb, rc, rd, re, rf, rg, rh⟩ Y X = rh + (rotr re 6 ^^^ rotr re 11 ^^^ rotr re 25) + ((re &&& rf) ^^^ (~~~re &&& rg)) + Y + X := by rw [← ch_eq]; rfl
      have hU : usum ⟨ra, rb, rc, rd, re, rf, rg, rh⟩ = (rotr ra 2 ^^^ rotr ra 13 ^^^ rotr ra 22) + ((ra &&& rb) ^^^ (ra &&& rc) ^^^ (rb &&& rc)) := by rw [← maj_eq]; rfl
      have t1 : ∀ w, Calls Tryd.prog 34 #[.int .i64 (re.toNat : Int), .int .i64 6] w fun e w' => e = .returned (.int .i64 ((rotr re 6).toNat : Int)) ∧ ∃ m, w' = w.drewN m := fun w => turn_any re 6 w (by omega) (by omega)
      have t2 : ∀ w, Calls Tryd.prog 34 #[.int .i64 (re.toNat : Int), .int .i64 11] w fun e w' => e = .returned (.int .i64 ((rotr re 11).toNat : Int)) ∧ ∃ m, w' = w.drewN m := fun w => turn_any re 11 w (by omega) (by omega)
      have t3 : ∀ w, Calls Tryd.prog 34 #[.int .i64 (re.toNat : Int), .int .i64 25] w fun e w' => e = .returned (.int .i64 ((rotr re 25).toNat : Int)) ∧ ∃ m, w' = w.drewN m := fun w => turn_any re 25 w (by omega) (by omega)
      have t4 : ∀ w, Calls Tryd.prog 34 #[.int .i64 (ra.toNat : Int), .int .i64 2] w fun e w' => e = .returned (.int .i64 ((rotr ra 2).toNat : Int)) ∧ Keeps (fun _ => False) w w' := fun w => turn_k ra 2 w (by omega) (by omega)
      have t5 : ∀ w, Calls Tryd.prog 34 #[.int .i64 (ra.toNat : Int), .int .i64 13] w fun e w' => e = .returned (.int .i64 ((rotr ra 13).toNat : Int)) ∧ Keeps (fun _ => False) w w' := fun w => turn_k ra 13 w (by omega) (by omega)
      have t6 : ∀ w, Calls Tryd.prog 34 #[.int .i64 (ra.toNat : Int), .int .i64 22] w fun e w' => e = .returned (.int .i64 ((rotr ra 22).toNat : Int)) ∧ Keeps (fun _ => False) w w' := fun w => turn_k ra 22 w (by omega) (by omega)
      generalize rotr re 6 = q6 at *
      generalize rotr re 11 = q11 at *
      generalize rotr re 25 = q25 at *
      generalize rotr ra 2 = q2 at *
      generalize rotr ra 13 = q13 at *
      generalize rotr ra 22 = q22 at *
      generalize q6 ^^^ q11 = qe at *
      generalize qe ^^^ q25 = SE at *
      generalize q2 ^^^ q13 = qa at *
      generalize qa ^^^ q22 = SA at *
      generalize ~~~re = NE at *
      generalize re &&& rf = C1 at *
      generalize NE &&& rg = C2 at *
      generalize C1 ^^^ C2 = CH at *
      generalize ra &&& rb = M1 at *
      generalize ra &&& rc = M2 at *
      generalize rb &&& rc = M3 at *
      generalize M1 ^^^ M2 = M4 at *
      generalize M4 ^^^ M3 = MJ at *
      have HST := Lib.hid hstep
      have HT := Lib.hid hT
      have HU := Lib.hid hU
      have HX := Lib.hid hX
      have HY := Lib.hid hY
      have HRr := Lib.hid hr
      clear hstep hT hU hX hY hr d
      have ba := u32_lt ra
      have bd := u32_lt rd
      have bh := u32_lt rh
      have bse := u32_lt SE
      have bsa := u32_lt SA
      have bch := u32_lt CH
      have bmj := u32_lt MJ
      have bx := u32_lt X
      have by' := u32_lt Y
      go_wp2
      go_quiet (fail)
      go_wp2
      go_quiet (fail)
      go_wp2
      generalize hw5 : World.drewN (World.drewN wr _) _ = w5
      have k5 : Keeps (fun _ => False) wr w5 := hw5 ▸ (((Keeps.refl _ wr).drewN _).drewN _)
      replace d0 := k5.cell d0 (fun h => h)
      replace d1 := k5.cell d1 (fun h => h)
      replace d2 := k5.cell d2 (fun h => h)
      replace d3 := k5.cell d3 (fun h => h)
      replace d4 := k5.cell d4 (fun h => h)
      replace d5 := k5.cell d5 (fun h => h)
      replace d6 := k5.cell d6 (fun h => h)
      replace d7 := k5.cell d7 (fun h => h)
      replace cw := k5.cell cw (fun h => h)
      replace ck := k5.cell ck (fun h => h)
      replace hkw := hkw.trans k5 (fun _ _ h => h)
      replace hkv := hkv.trans k5 (fun _ _ h => h)
      clear hw5 k5 ho
      go_quiet (first | with_reducible exact Calls.quiet_of (t1 _) | with_reducible exact Calls.quiet_of (t2 _) | with_reducible exact Calls.quiet_of (t3 _))
      have hTu : ((rh.toNat : Int) + (SE.toNat : Int) + (CH.toNat : Int) + (Y.toNat : Int) + (X.toNat : Int)) % 4294967296 = ((tsum ⟨ra, rb, rc, rd, re, rf, rg, rh⟩ Y X).toNat : Int) := by
        rw [HT.out]
        simp only [UInt32.toNat_add]
        omega
      have hUu : ((SA.toNat : Int) + (MJ.toNat : Int)) % 4294967296 = ((usum ⟨ra, rb, rc, rd, re, rf, rg, rh⟩).toNat : Int) := by
        rw [HU.out]
        simp only [UInt32.toNat_add]
        omega
      obtain ⟨T, hTT⟩ : ∃ T : Int, (rh.toNat : Int) + (SE.toNat : Int) + (CH.toNat : Int) + (Y.toNat : Int) + (X.toNat : Int) = T := ⟨_, rfl⟩
      obtain ⟨U, hUU⟩ : ∃ U : Int, (SA.toNat : Int) + (MJ.toNat : Int) = U := ⟨_, rfl⟩
      rw [hTT] at hTu
      rw [hUU] at hUu
      have T0 : 0 ≤ T := by omega
      have T1 : T ≤ 42949672960 := by omega
      have U0 : 0 ≤ U := by omega
      have U1 : U ≤ 42949672960 := by omega
      have hA : (T + U) % 4294967296 = ((tsum ⟨ra, rb, rc, rd, re, rf, rg, rh⟩ Y X + usum ⟨ra, rb, rc, rd, re, rf, rg, rh⟩).toNat : Int) := m_plus2 hTu hUu
      have hE : ((rd.toNat : Int) + T) % 4294967296 = ((rd + tsum ⟨ra, rb, rc, rd, re, rf, rg, rh⟩ Y X).toNat : Int) := m_plus1 hTu
      obtain ⟨A', hA'⟩ : ∃ A', tsum ⟨ra, rb, rc, rd, re, rf, rg, rh⟩ Y X + usum ⟨ra, rb, rc, rd, re, rf, rg, rh⟩ = A' := ⟨_, rfl⟩
      obtain ⟨E', hE'⟩ : ∃ E', rd + tsum ⟨ra, rb, rc, rd, re, rf, rg, rh⟩ Y X = E' := ⟨_, rfl⟩
      rw [hA'] at hA
      rw [hE'] at hE
      have HA' := Lib.hid hA'
      have HE' := Lib.hid hE'
      have hkQ : ∀ n, Keeps (fun _ => False) w5 (w5.drewN n) := fun n => (Keeps.refl _ w5).drewN n
      clear hTu hUu hA' hE' xE1 xE2 xC0 xC1 xC2 xC3 xM1 xM2 xM3 xM4 xM5 t1 t2 t3
      go_wp2_with fail
      rw [hTT]
      clear hTT
      refine (t4 _).mono ?_
      rintro e w6 ⟨rfl, hk6⟩
      go_wp2_with fail
      refine (t5 _).mono ?_
      rintro e w7 ⟨rfl, hk7⟩
      go_wp2_with fail
      refine (t6 _).mono ?_
      rintro e w8 ⟨rfl, hk8⟩
      have k8 := ((hkQ _).trans hk6 (fun _ _ h => h)).trans (hk7.trans hk8 (fun _ _ h => h)) (fun _ _ h => h)
      replace d0 := k8.cell d0 (fun h => h)
      replace d1 := k8.cell d1 (fun h => h)
      replace d2 := k8.cell d2 (fun h => h)
      replace d3 := k8.cell d3 (fun h => h)
      replace d4 := k8.cell d4 (fun h => h)
      replace d5 := k8.cell d5 (fun h => h)
      replace d6 := k8.cell d6 (fun h => h)
      replace hkw := hkw.trans k8 (fun _ _ h => h)
      replace hkv := hkv.trans k8 (fun _ _ h => h)
      clear d7 cw ck hk6 hk7 hk8 hkQ k8 t4 t5 t6
      go_wp2_with fail
      clear xA1 xA2
      refine region_draws_tail 28 (by kernel_rfl) (by kernel_rfl) ?_
      simp only [List.take_succ_cons, List.take_zero, List.drop_succ_cons, List.drop_zero]
      repeat (go_big_quiet_step (fail))
      refine wpQuiet_nil ?_
      rintro _ ⟨nq, rfl⟩
      go_wp2
      go_roundw
      case rel =>
        have hfin : rnds (wlist l 64) s (k + 1) = ⟨A', ra, rb, rc, E', re, rf, rg⟩ := by
          rw [HST.out]
          show S8.mk _ _ _ _ _ _ _ _ = _
          rw [HA'.out, HE'.out]
        refine ⟨k + 1, by omega, by go_num, ?_, (hkw.drewN _).alloc _, (hkv.drewN _).alloc _⟩
        rw [hfin]
        exact ZOwn.lit _ _ (szs ⟨A', ra, rb, rc, E', re, rf, rg⟩) 8 _ rfl rfl (by omega) hkw.size
      case measure => simp [intOf]; omega
    · have hk64 : k = 64 := by omega
      have hk64' : (64 : Int) ≤ (k : Int) := by omega
      rw [hk64] at ho
      clear hk64
      obtain ⟨R, hR⟩ : ∃ R, rnds (wlist l 64) s 64 = R := ⟨_, rfl⟩
      have hfin : mixL s R 8 = words8 (addS s l) := by rw [← hR]; exact mixL_full s l
      rw [hR] at ho
      have hsc' : ∀ i, i < 8 → wr.cell? ⟨sb, so + i, none⟩ = some (.int .i64 (((words8 s).getD i 0).toNat : Int)) := fun i hi => hkw.cell (HS.out i hi) (fun h => h)
      have HF := Lib.hid hfin
      have HS2 := Lib.hid hsc'
      clear hR hfin hsc'
      go_wp2
      go_loopw [17] (fun u17 wq => ∃ k : Nat, k ≤ 8 ∧ u17 = .int .i64 k ∧ ZOwn wq w.heap.size (.slice (some ⟨g, o9, none⟩) 8 c9) (zs (mixL s R k)) ∧ Keeps (fun _ => False) w wq) (fun u17 _ => 8 - (intOf u17).toNat)
      case atStart => exact ⟨0, by omega, rfl, ho, hkw⟩
      case round =>
        obtain ⟨k, hk, rfl, ho, hkq⟩ := hrel
        by_cases hlt : k < 8
        · obtain ⟨z1, z2, z3⟩ := ho.at k (by rw [zs_length, mixL_len]; exact hlt)
          rw [zs_get, mixL_get s R k hlt] at z1
          have c1 := hkq.cell (HS.out k hlt) (fun h => h)
          have hst := mixL_step s R k hlt
          obtain ⟨x, hx⟩ : ∃ x, (words8 R).getD k 0 = x := ⟨_, rfl⟩
          obtain ⟨y, hy⟩ : ∃ y, (words8 s).getD k 0 = y := ⟨_, rfl⟩
          rw [hx] at z1
          rw [hy] at c1
          rw [hx, hy] at hst
          have hlt' : (k : Int) < 8 := by omega
          have hsum := m_plus x y
          have bx := u32_lt x
          have by' := u32_lt y
          obtain ⟨S, hS⟩ : ∃ S, x + y = S := ⟨_, rfl⟩
          rw [hS] at hsum hst
          have z4 := z3 (S.toNat : Int)
          rw [zs_set _ k S _ rfl, hst] at z4
          have HZ := Lib.hid z4
          clear hst hx hy hS z3 z4
          go_wp2
          refine region_draws_tail 12 (by kernel_rfl) (by kernel_rfl) ?_
          simp only [List.take_succ_cons, List.take_zero, List.drop_succ_cons, List.drop_zero]
          repeat (go_big_quiet_step (fail))
          refine wpQuiet_nil ?_
          rintro _ ⟨nq, rfl⟩
          go_wp2
          go_roundw
          case rel => exact ⟨k + 1, by omega, by go_num, HZ.out.keeps ((Keeps.refl (fun _ => False) _).drewN _) (fun _ _ h => h), (hkq.drewN _).setCell _ _ (.inr hg9)⟩
          case measure => simp [intOf]; omega
        · have hk8 : k = 8 := by omega
          have hk8' : (8 : Int) ≤ (k : Int) := by omega
          rw [hk8, HF.out] at ho
          clear hk8
          go_wp2
          go_ret2
          exact ⟨_, rfl, ho, hkq⟩
end Go.Proofs.YtkcnllbfinjaiaaDoor
