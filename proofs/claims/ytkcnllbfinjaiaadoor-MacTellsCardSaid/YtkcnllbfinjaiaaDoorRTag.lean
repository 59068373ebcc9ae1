/- redoubtref11.Full, Tag. -/
import Derived.Test.YtkcnllbfinjaiaaDoorROf
namespace Go.Proofs.YtkcnllbfinjaiaaDoor
open Go.RowKit

theorem padK_short (key : List UInt8) (h : key.length ≤ 64) : padK key = key ++ List.replicate (64 - key.length) 0 := by
  unfold padK keyOf
  rw [if_neg (by omega)]
theorem padK_long (key : List UInt8) (h : 64 < key.length) : padK key = sha key ++ List.replicate (64 - (sha key).length) 0 := by
  unfold padK keyOf
  rw [if_pos h]


set_option maxRecDepth 100000 in
set_option maxHeartbeats 4000000 in
theorem rfull_any (kv bv : Value) (key b : List UInt8) (w : World) (hk : BRd w kv key) (hb : BRd w bv b) (hkl : key.length ≤ 1000) (hbl : b.length ≤ 10000) :
    Calls Tryd.prog 14 #[kv, bv] w (Gives (hmac key b) w) := by
  obtain ⟨ka, kc, rfl, hkc, hkm⟩ := hk.slice
  obtain ⟨ba, bc, rfl, hbc, hbm⟩ := hb.slice
  simp only [maxLen] at hkm hbm
  go_enter Tryd.func14, Tryd.ntmps14
  by_cases h64 : 64 < key.length
  · have h64' : (64 : Int) < (key.length : Int) := by omega
    have HP := Lib.hid (padK_long key h64)
    have hsl := sha_len key
    go_wp2_with fail
    refine (rof_any _ key _ hk (by omega)).mono ?_
    rintro e w1 ⟨sv, rfl, hs1, hk1⟩
    have hS1 : BRd w1 sv (sha key) := hs1.bat.low
    clear hs1 h64 h64'
    go_wp2_with fail
    refine (rwith_any _ (sha key) 54 _ hS1 (by omega)).mono ?_
    rintro e w2 ⟨iv, rfl, hi2, hk2⟩
    have hkB := hk1.trans hk2 (fun _ _ h => h)
    have hI2 : BRd w2 iv _ := hi2.bat.low
    have hil : (withL (sha key ++ List.replicate (64 - (sha key).length) 0) 54).length = 64 := by simp [withL]; omega
    rw [← HP.out] at hI2 hil
    obtain ⟨ia, ic, rfl, -, -⟩ := hI2.slice
    rw [hil] at hI2 ⊢
    have hK2 := (hS1).keeps hk2
    clear hi2 hk2
    go_wp2_with fail
    refine (both_any _ [withL (padK key) 54, b] _ (BBAt.pair (T := 22) hI2 (hb.keeps hkB)).low (by simp [hil]; omega)).mono ?_
    rintro e w3 ⟨jv, rfl, hj3, hk3⟩
    have hkC := (hkB.alloc _).trans hk3 (fun _ _ h => h)
    have hJ3 : BRd w3 jv _ := hj3.bat.low
    rw [show [withL (padK key) 54, b].flatten = withL (padK key) 54 ++ b by simp] at hJ3
    have hK3 := (hK2.keeps ((Keeps.refl _ w2).alloc _)).keeps hk3
    clear hj3 hk3 hI2 hK2 hkB
    go_wp2_with fail
    refine (rof_any _ (withL (padK key) 54 ++ b) _ hJ3 (by rw [List.length_append, hil]; omega)).mono ?_
    rintro e w4 ⟨nv, rfl, hn4, hk4⟩
    have hkD := hkC.trans hk4 (fun _ _ h => h)
    have hN4 : BRd w4 nv _ := hn4.bat.low
    obtain ⟨na, nc, rfl, -, -⟩ := hN4.slice
    rw [sha_len] at hN4 ⊢
    have hK4 := hK3.keeps hk4
    clear hn4 hk4 hK3 hJ3 hkC hil
    go_wp2_with fail
    refine (rwith_any _ (sha key) 92 _ hK4 (by omega)).mono ?_
    rintro e w5 ⟨ov, rfl, ho5, hk5⟩
    have hkE := hkD.trans hk5 (fun _ _ h => h)
    have hO5 : BRd w5 ov _ := ho5.bat.low
    have hol : (withL (sha key ++ List.replicate (64 - (sha key).length) 0) 92).length = 64 := by simp [withL]; omega
    rw [← HP.out] at hO5 hol
    obtain ⟨oa, oc, rfl, -, -⟩ := hO5.slice
    rw [hol] at hO5 ⊢
    have hN5 := hN4.keeps hk5
    clear ho5 hk5 hN4 hK4 hkD
    go_wp2_with fail
    refine (both_any _ [withL (padK key) 92, sha (withL (padK key) 54 ++ b)] _ (BBAt.pair (T := 22) hO5 hN5).low (by simp [hol, sha_len])).mono ?_
    rintro e w6 ⟨qv, rfl, hq6, hk6⟩
    have hkF := (hkE.alloc _).trans hk6 (fun _ _ h => h)
    have hQ6 : BRd w6 qv _ := hq6.bat.low
    rw [show [withL (padK key) 92, sha (withL (padK key) 54 ++ b)].flatten = withL (padK key) 92 ++ sha (withL (padK key) 54 ++ b) by simp] at hQ6
    clear hq6 hk6 hO5 hN5 hkE
    go_wp2_with fail
    refine (rof_any _ (withL (padK key) 92 ++ sha (withL (padK key) 54 ++ b)) _ hQ6 (by rw [List.length_append, hol, sha_len]; omega)).mono ?_
    rintro e w7 ⟨rv, rfl, hr7, hk7⟩
    go_wp2
    go_ret
    exact ⟨_, rfl, hr7.mono hkF.size, hkF.trans hk7 (fun _ _ h => h)⟩
  · have h64' : (key.length : Int) ≤ 64 := by omega
    have HP := Lib.hid (padK_short key (by omega))
    go_wp2_with fail
    refine (rwith_any _ (key) 54 _ hk (by omega)).mono ?_
    rintro e w2 ⟨iv, rfl, hi2, hk2⟩
    have hkB := (Keeps.refl (fun _ => False) w).trans hk2 (fun _ _ h => h)
    have hI2 : BRd w2 iv _ := hi2.bat.low
    have hil : (withL (key ++ List.replicate (64 - (key).length) 0) 54).length = 64 := by simp [withL]; omega
    rw [← HP.out] at hI2 hil
    obtain ⟨ia, ic, rfl, -, -⟩ := hI2.slice
    rw [hil] at hI2 ⊢
    have hK2 := (hk).keeps hk2
    clear hi2 hk2
    go_wp2_with fail
    refine (both_any _ [withL (padK key) 54, b] _ (BBAt.pair (T := 22) hI2 (hb.keeps hkB)).low (by simp [hil]; omega)).mono ?_
    rintro e w3 ⟨jv, rfl, hj3, hk3⟩
    have hkC := (hkB.alloc _).trans hk3 (fun _ _ h => h)
    have hJ3 : BRd w3 jv _ := hj3.bat.low
    rw [show [withL (padK key) 54, b].flatten = withL (padK key) 54 ++ b by simp] at hJ3
    have hK3 := (hK2.keeps ((Keeps.refl _ w2).alloc _)).keeps hk3
    clear hj3 hk3 hI2 hK2 hkB
    go_wp2_with fail
    refine (rof_any _ (withL (padK key) 54 ++ b) _ hJ3 (by rw [List.length_append, hil]; omega)).mono ?_
    rintro e w4 ⟨nv, rfl, hn4, hk4⟩
    have hkD := hkC.trans hk4 (fun _ _ h => h)
    have hN4 : BRd w4 nv _ := hn4.bat.low
    obtain ⟨na, nc, rfl, -, -⟩ := hN4.slice
    rw [sha_len] at hN4 ⊢
    have hK4 := hK3.keeps hk4
    clear hn4 hk4 hK3 hJ3 hkC hil
    go_wp2_with fail
    refine (rwith_any _ (key) 92 _ hK4 (by omega)).mono ?_
    rintro e w5 ⟨ov, rfl, ho5, hk5⟩
    have hkE := hkD.trans hk5 (fun _ _ h => h)
    have hO5 : BRd w5 ov _ := ho5.bat.low
    have hol : (withL (key ++ List.replicate (64 - (key).length) 0) 92).length = 64 := by simp [withL]; omega
    rw [← HP.out] at hO5 hol
    obtain ⟨oa, oc, rfl, -, -⟩ := hO5.slice
    rw [hol] at hO5 ⊢
    have hN5 := hN4.keeps hk5
    clear ho5 hk5 hN4 hK4 hkD
    go_wp2_with fail
    refine (both_any _ [withL (padK key) 92, sha (withL (padK key) 54 ++ b)] _ (BBAt.pair (T := 22) hO5 hN5).low (by simp [hol, sha_len])).mono ?_
    rintro e w6 ⟨qv, rfl, hq6, hk6⟩
    have hkF := (hkE.alloc _).trans hk6 (fun _ _ h => h)
    have hQ6 : BRd w6 qv _ := hq6.bat.low
    rw [show [withL (padK key) 92, sha (withL (padK key) 54 ++ b)].flatten = withL (padK key) 92 ++ sha (withL (padK key) 54 ++ b) by simp] at hQ6
    clear hq6 hk6 hO5 hN5 hkE
    go_wp2_with fail
    refine (rof_any _ (withL (padK key) 92 ++ sha (withL (padK key) 54 ++ b)) _ hQ6 (by rw [List.length_append, hol, sha_len]; omega)).mono ?_
    rintro e w7 ⟨rv, rfl, hr7, hk7⟩
    go_wp2
    go_ret
    exact ⟨_, rfl, hr7.mono hkF.size, hkF.trans hk7 (fun _ _ h => h)⟩

set_option maxRecDepth 100000 in
set_option maxHeartbeats 1000000 in
theorem rtag_bad (kv bv : Value) (key : List UInt8) (w : World) (hk : BRd w kv key) (h : (key.length : Int) ≠ 32) :
    Calls Tryd.prog 13 #[kv, bv] w fun e w' => e = .returned (.tuple #[.slice none 0 0, .int .i64 1]) ∧ w' = w := by
  obtain ⟨ka, kc, rfl, hkc, hkm⟩ := hk.slice
  go_enter Tryd.func13, Tryd.ntmps13
  go_wp2
  go_ret2
  exact ⟨rfl, rfl⟩

set_option maxRecDepth 100000 in
set_option maxHeartbeats 1000000 in
theorem rtag_ok (kv bv : Value) (key b : List UInt8) (w : World) (hk : BRd w kv key) (hb : BRd w bv b) (hbl : b.length ≤ 10000) (h : key.length = 32) :
    Calls Tryd.prog 13 #[kv, bv] w fun e w' => ∃ v, e = .returned (.tuple #[v, .int .i64 0]) ∧ BOwn w' w.heap.size v ((hmac key b).take 16) ∧ Keeps (fun _ => False) w w' := by
  obtain ⟨ka, kc, rfl, hkc, hkm⟩ := hk.slice
  have H := Lib.hid h
  rw [h]
  rw [h] at hkc hk
  clear h
  go_enter Tryd.func13, Tryd.ntmps13
  go_wp2_with fail
  refine (rfull_any _ _ key b _ hk hb (by have := H.out; omega) hbl).mono ?_
  rintro e w3 ⟨v3, rfl, ho3, hk3⟩
  obtain ⟨g, off, c, rfl, hc, hm, hg⟩ := ho3.place (by rw [hmac_len]; omega)
  have hf := ho3.first 16 c (by rw [hmac_len]; omega) (by rw [hmac_len] at hc; omega) (Nat.le_refl _)
  rw [hmac_len] at hc ho3 ⊢
  simp only [maxLen] at hm
  have hc16 : (16 : Int) ≤ c := by omega
  go_wp2
  go_ret2
  exact ⟨_, rfl, hf, hk3⟩
end Go.Proofs.YtkcnllbfinjaiaaDoor
