/- Words, walks and plain laws that the claim leans on, part 42. -/
import Derived.Test.YtekaoknpjpbjgaaDoorM18
import Derived.Test.YtekaoknpjpbjgaaDoorM25
import Derived.Test.YtekaoknpjpbjgaaDoorM39

/-! The reference's Counter, Stream, Turn. -/
namespace Go.Proofs.YtekaoknpjpbjgaaDoor
set_option linter.unusedVariables false
set_option linter.unusedSimpArgs false
open Go.RowKit

theorem BBAt.lits2 {w : World} {T : TypeId} (vs : List Value) (ls : List (List UInt8)) (n : Nat) (hn : vs.length = n) (hm : n ≤ 1000) (h : RowsOf w (· < w.heap.size) vs ls) :
    BBRd (w.alloc (.cells vs.toArray T)) (.slice (some ⟨w.heap.size, 0, none⟩) n n) ls := by
  obtain ⟨us, q1, q2, q3⟩ := BBAt.lits (T := T) (w := w) (q := (· < w.heap.size)) vs.toArray vs ls n rfl hn hm h
  exact ⟨us, q1, q2.mono fun b e => by subst e; rw [size_alloc]; omega, fun i x l hx hl => (q3 i x l hx hl).mono fun b hb => by rw [size_alloc]; omega⟩
theorem b4_ofN (n : Nat) (h : n < 4294967296) : b4 (UInt32.ofNat n) = be4 n := by
  have e : (UInt32.ofNat n).toNat = n := UInt32.toNat_ofNat_of_lt' h
  unfold b4 be4
  rw [e]
theorem four_n (n : Nat) (w : World) (h : n < 4294967296) : Calls Tryd.prog 33 #[.int .i64 n] w (Gives (be4 n) w) := by
  have e : (UInt32.ofNat n).toNat = n := UInt32.toNat_ofNat_of_lt' h
  have := four_any (UInt32.ofNat n) w
  rwa [e, b4_ofN n h] at this
set_option maxRecDepth 100000 in
set_option maxHeartbeats 1000000 in
theorem rcounter_any (sv iv : Value) (salt ivl : List UInt8) (n : Nat) (w : World) (hs : BRd w sv salt) (hi : BRd w iv ivl) (h2 : salt.length = 4) (h3 : ivl.length = 8) (h1 : 1 ≤ n) (hn : n ≤ 100000) :
    Calls Tryd.prog 56 #[sv, iv, .int .i64 n] w fun e w' => ∃ v, e = .returned (.tuple #[v, .int .i64 0]) ∧ BOwn w' w.heap.size v (salt ++ ivl ++ be4 n) ∧ Keeps (fun _ => False) w w' := by
  obtain ⟨sa, sc, rfl, -, -⟩ := BAt.slice hs
  obtain ⟨ia, ic, rfl, -, -⟩ := BAt.slice hi
  have HS := Lib.hid hs
  have HI := Lib.hid hi
  rw [h2] at HS ⊢
  rw [h3] at HI ⊢
  have HF := Lib.hid (four_n n w (by omega))
  have HL := Lib.hid (And.intro h2 h3)
  obtain ⟨N, hN⟩ : ∃ N : Int, (n : Int) = N := ⟨_, rfl⟩
  have b1 : 1 ≤ N := by omega
  have b2 : N ≤ 100000 := by omega
  have HB4 := Lib.hid (be4_len n)
  rw [hN] at HF ⊢
  generalize be4 n = F at *
  clear hs hi h2 h3 h1 hn hN
  go_enter Tryd.func56, Tryd.ntmps56
  go_wp2_with fail
  refine HF.out.mono ?_
  rintro e w1 ⟨v1, rfl, ho1, hk1⟩
  obtain ⟨a1, c1, rfl, -, -⟩ := ho1.slice
  have h1r : BRd w1 (.slice a1 4 c1) F := by have := ho1.bat.low; rwa [HB4.out] at this
  rw [HB4.out]
  have hb := BBAt.lits2 (T := 25) [.slice sa 4 sc, .slice ia 8 ic, .slice a1 4 c1] [salt, ivl, F] 3 rfl (by omega) ⟨BRd.keeps HS.out hk1, BRd.keeps HI.out hk1, h1r, trivial⟩
  have hka := hk1.alloc (.cells #[.slice sa 4 sc, .slice ia 8 ic, .slice a1 4 c1] 25)
  have HBO := Lib.hid (both_any _ [salt, ivl, F] _ hb (by simp [HL.out.1, HL.out.2, HB4.out]))
  have HKA := Lib.hid hka
  clear hb hka ho1 hk1
  go_wp2_with fail
  refine HBO.out.mono ?_
  rintro e w2 ⟨v2, rfl, ho2, hk2⟩
  rw [show [salt, ivl, F].flatten = salt ++ ivl ++ F by simp] at ho2
  have HO := Lib.hid (ho2.mono HKA.out.size)
  have HK := Lib.hid (HKA.out.trans hk2 (fun _ _ h => h))
  clear ho2 hk2 HBO HKA
  go_wp2
  go_ret2
  exact ⟨_, rfl, HO.out, HK.out⟩

set_option maxRecDepth 100000 in
set_option maxHeartbeats 1000000 in
theorem rstream_any (kv sv iv : Value) (key salt ivl : List UInt8) (n : Nat) (w : World) (hk : BRd w kv key) (hs : BRd w sv salt) (hi : BRd w iv ivl) (h1 : key.length = 16 ∨ key.length = 32) (h2 : salt.length = 4) (h3 : ivl.length = 8) (h4 : n ≤ 65536) :
    Calls Tryd.prog 46 #[kv, sv, iv, .int .i64 n] w fun e w' => ∃ v, e = .returned (.tuple #[v, .int .i64 0]) ∧ BOwn w' w.heap.size v (streamOf key salt ivl n) ∧ Keeps (fun _ => False) w w' := by
  obtain ⟨ka, kc, rfl, -, -⟩ := BAt.slice hk
  obtain ⟨sa, sc, rfl, -, -⟩ := BAt.slice hs
  obtain ⟨ia, ic, rfl, -, -⟩ := BAt.slice hi
  have HMY := Lib.hid (rmay8_any _ key w hk h1)
  have HKY := Lib.hid (rkeys8_any _ key w hk h1)
  have hkl : (keysOf key).length = 176 ∨ (keysOf key).length = 240 := by
    unfold keysOf
    rw [keysF_len]
    rcases h1 with h | h
    · left; rw [h]; rfl
    · right; rw [h]; rfl
  have HS := Lib.hid hs
  have HI := Lib.hid hi
  rw [h2] at HS ⊢
  rw [h3] at HI ⊢
  have HL := Lib.hid (And.intro h2 h3)
  obtain ⟨KS, hKS⟩ : ∃ KS, keysOf key = KS := ⟨_, rfl⟩
  rw [hKS] at HKY hkl
  obtain ⟨B, hB⟩ : ∃ B, (n + 15) / 16 = B := ⟨_, rfl⟩
  have hst : streamOf key salt ivl n = (blocksOf KS salt ivl B).take n := by unfold streamOf; rw [hKS, hB]
  have HST := Lib.hid hst
  have HKL := Lib.hid hkl
  have hB1 : n ≤ 16 * B ∧ 16 * B ≤ n + 15 := by omega
  obtain ⟨k, hkk⟩ : ∃ k, key.length = k := ⟨_, rfl⟩
  rw [hkk] at HMY HKY ⊢
  have hn0 : ¬ (n : Int) < 0 := by omega
  have hn1 : (n : Int) ≤ 65536 := by omega
  clear hk hs hi h1 h2 h3 hkl hKS hst hB hkk
  go_enter Tryd.func46, Tryd.ntmps46
  go_wp2_with fail
  refine HMY.out.mono ?_
  rintro e w1 ⟨rfl, rfl⟩
  go_wp2_with fail
  refine HKY.out.mono ?_
  rintro e w2 ⟨v2, rfl, ho2, hk2⟩
  have HK2 := Lib.hid hk2
  have HY2 := Lib.hid (show BRd w2 v2 KS from ho2.bat.low)
  clear ho2 hk2 HKY HMY
  go_wp2_with fail
  refine (rtable_any _).mono ?_
  rintro e w3 ⟨v3, rfl, ho3, hk3⟩
  have HK3 := Lib.hid (HK2.out.trans hk3 (fun _ _ h => h))
  have HY3 := Lib.hid (BRd.keeps HY2.out hk3)
  have HT3 := Lib.hid (show ZRd w3 v3 (zof boxL) from ho3.bat.low)
  clear ho3 hk3 HK2 HY2
  go_wp2
  go_loopw [12, 13] (fun u12 u13 wr => ∃ m : Nat, m ≤ B ∧ u13 = .int .i64 ((m + 1 : Nat) : Int) ∧ BOwn wr w3.heap.size u12 (blocksOf KS salt ivl m) ∧ Keeps (fun _ => False) w3 wr) (fun _ u13 _ => B + 1 - (intOf u13).toNat)
  case atStart => exact ⟨0, by omega, rfl, BOwn.nil _ _, Keeps.refl _ _⟩
  case round =>
    obtain ⟨m, hm, rfl, ho, hkr⟩ := hrel
    obtain ⟨a12, c12, rfl, -, -⟩ := BOwn.slice ho
    have hbl := blocksOf_len KS salt ivl m
    obtain ⟨L, hL⟩ : ∃ L, (blocksOf KS salt ivl m).length = L := ⟨_, rfl⟩
    rw [hL] at ho hbl ⊢
    obtain ⟨m1, hm1⟩ : ∃ m1, m + 1 = m1 := ⟨_, rfl⟩
    rw [hm1]
    by_cases hlt : L < n
    · have hltI : (L : Int) < (n : Int) := by omega
      have HC := Lib.hid (rcounter_any _ _ salt ivl m1 wr (BRd.keeps HS.out (HK3.out.trans hkr (fun _ _ h => h))) (BRd.keeps HI.out (HK3.out.trans hkr (fun _ _ h => h))) HL.out.1 HL.out.2 (by omega) (by omega))
      have HKR := Lib.hid hkr
      have HO := Lib.hid ho
      have HLL := Lib.hid hL
      have HM1 := Lib.hid hm1
      have hm1l : m1 ≤ 5000 := by omega
      have HBL := Lib.hid hbl
      have hm1B : m1 ≤ B := by omega
      clear ho hkr hL hm1 hbl
      go_wp2_with fail
      refine HC.out.mono ?_
      rintro e w4 ⟨v4, rfl, ho4, hk4⟩
      have hk34 := HKR.out.trans hk4 (fun _ _ h => h)
      have HBY := Lib.hid (rby_any v3 v2 v4 KS (salt ++ ivl ++ be4 m1) w4 (ZRd.keeps HT3.out hk34) (BRd.keeps HY3.out hk34) ho4.bat.low (by simp only [List.length_append, HL.out.1, HL.out.2, be4_len]) HKL.out)
      have HK4 := Lib.hid hk34
      have HO4 := Lib.hid (HO.out.keeps hk4 (fun _ _ h => h))
      clear hk34 ho4 hk4 HC HO
      go_wp2_with fail
      refine HBY.out.mono ?_
      rintro e w5 ⟨v5, rfl, ho5, hk5⟩
      have hk35 := HK4.out.trans hk5 (fun _ _ h => h)
      have hblk := blockOf_len KS (salt ++ ivl ++ be4 m1)
      have hown := HO4.out.keeps hk5 (fun _ _ h => h)
      obtain ⟨v6, w6, hrun, ho6, hk6, -⟩ := run_append_bytes (ty := 25) hown ho5.bat (by rw [HLL.out, hblk]; have := HBL.out; omega) hk35.size
      have hsucc : blocksOf KS salt ivl m ++ blockOf KS (salt ++ ivl ++ be4 m1) = blocksOf KS salt ivl m1 := by rw [← HM1.out, blocksOf_succ]
      rw [hsucc] at ho6
      have HRUN := Lib.hid hrun
      have HO6 := Lib.hid ho6
      have HK6 := Lib.hid (hk35.from hk6 (fun b hb => (hown.block b hb).1))
      have h5s := ho5.slice
      rw [hblk] at h5s
      obtain ⟨a5, c5, rfl, -, -⟩ := h5s
      clear hrun ho6 hk6 hk35 hown hsucc ho5 hk5 hblk HBY HK4 HO4
      go_wp2_with (at_builtin; refine Lib.wpList_append_run _ rfl _ _ _ _ rfl _ _ rfl rfl _ _ HRUN.out ?_)
      go_roundw
      case rel => exact ⟨m1, hm1B, by go_num, HO6.out, HK6.out⟩
      case measure => simp [intOf]; omega
    · have hmB : m = B := by omega
      rw [← hL] at ho ⊢
      have hnl : n ≤ (blocksOf KS salt ivl m).length := by omega
      have hfin := BOwn.firstG ho n hnl
      rw [hmB, ← HST.out] at hfin
      have HFIN := Lib.hid (hfin.mono HK3.out.size)
      have HKF := Lib.hid (HK3.out.trans hkr (fun _ _ h => h))
      have hltI : (n : Int) ≤ (L : Int) := by omega
      obtain ⟨c12', hc12⟩ : ∃ c, c12 = c := ⟨_, rfl⟩
      have hLc : L ≤ c12 := by have := ho.slice; obtain ⟨a, c, e, h5, -⟩ := this; simp only [Value.slice.injEq] at e; omega
      have hnc : (n : Int) ≤ (c12 : Int) := by omega
      rw [hL] at *
      clear hfin ho hkr hL hbl hc12
      go_wp2
      go_ret2
      exact ⟨_, rfl, HFIN.out, HKF.out⟩

theorem turnOf_upd (key salt iv b : List UInt8) : updN b.length (fun i => at8 b i ^^^ at8 (streamOf key salt iv b.length) i) (fun _ => 0) b.length = turnOf key salt iv b := by
  have hl := streamOf_len key salt iv b.length
  rw [updN_all]
  unfold turnOf
  generalize streamOf key salt iv b.length = s at *
  refine List.ext_getElem (by simp [hl]) fun i h1 h2 => ?_
  have hi : i < b.length := by simpa using h1
  simp [at8, hi, hl, UInt8.xor_comm]
set_option maxRecDepth 100000 in
set_option maxHeartbeats 1000000 in
theorem rturn_any (kv sv iv bv : Value) (key salt ivl b : List UInt8) (w : World) (hk : BRd w kv key) (hs : BRd w sv salt) (hi : BRd w iv ivl) (hb : BRd w bv b) (h1 : key.length = 16 ∨ key.length = 32) (h2 : salt.length = 4) (h3 : ivl.length = 8) (h4 : b.length ≤ 65536) :
    Calls Tryd.prog 32 #[kv, sv, iv, bv] w fun e w' => ∃ v, e = .returned (.tuple #[v, .int .i64 0]) ∧ BOwn w' w.heap.size v (turnOf key salt ivl b) ∧ Keeps (fun _ => False) w w' := by
  obtain ⟨ba, bc, rfl, -, -⟩ := BAt.slice hb
  have HB := Lib.hid hb
  have HS := Lib.hid (rstream_any kv sv iv key salt ivl b.length w hk hs hi h1 h2 h3 h4)
  have HT := Lib.hid (turnOf_upd key salt ivl b)
  have hsl := streamOf_len key salt ivl b.length
  clear hk hs hi hb h1 h2 h3
  generalize streamOf key salt ivl b.length = s at *
  obtain ⟨f, hf⟩ : ∃ f : Nat → UInt8, f = fun i => at8 b i ^^^ at8 s i := ⟨_, rfl⟩
  rw [← hf] at HT
  have HF := Lib.hid hf
  obtain ⟨n, hn⟩ : ∃ n, b.length = n := ⟨_, rfl⟩
  rw [hn] at HS HB HT hsl h4 ⊢
  have HN := Lib.hid hn
  have HSL := Lib.hid hsl
  clear hn hf
  go_enter Tryd.func32, Tryd.ntmps32
  go_wp2_with fail
  refine HS.out.mono ?_
  rintro e w1 ⟨v1, rfl, ho1, hk1⟩
  have HS1 := Lib.hid (show BRd w1 v1 s from ho1.bat.low)
  have HK1 := Lib.hid hk1
  have hsz := hk1.size
  obtain ⟨a1, c1, rfl, -, -⟩ := ho1.slice
  rw [hsl] at HS1 ⊢
  clear ho1 hk1 HS hsl
  go_wp2_with (at_make; (refine wpList_make_bytes rfl _ _ rfl w.heap.size _ _ n n rfl rfl rfl rfl (Nat.le_refl _) (by omega) hsz (fun w2 h2 hk2 => ?_)))
  rw [← updN_rep n f] at h2
  have H2 := Lib.hid h2
  have HK2 := Lib.hid hk2
  clear h2 hk2
  go_loopw [13] (fun u13 wr => ∃ k : Nat, k ≤ n ∧ u13 = .int .i64 k ∧ BOwn wr w.heap.size (.slice (some ⟨w1.heap.size, 0, none⟩) n n) (updN n f (fun _ => 0) k) ∧ Keeps (fun _ => False) w1 wr) (fun u13 _ => n - (intOf u13).toNat)
  case atStart => exact ⟨0, by omega, rfl, H2.out, HK2.out⟩
  case round =>
    obtain ⟨k, hkn, rfl, ho, hkr⟩ := hrel
    clear H2 HK2
    by_cases hlt : k < n
    · obtain ⟨t1, t2, t3⟩ := ho.at k (by rw [updN_len]; exact hlt)
      rw [updN_get, if_neg (Nat.lt_irrefl k)] at t1
      have t4 := t3 (f k)
      rw [updN_set n f] at t4
      rw [Nat.zero_add] at t1 t2 t4
      obtain ⟨b2, o2, c2', e2', -, -, -, hbc⟩ := BAt.at8 HB.out (by rw [HN.out]; omega)
      rw [HN.out] at e2'
      simp only [Value.slice.injEq] at e2'
      obtain ⟨rfl, -, rfl⟩ := e2'
      obtain ⟨b3, o3, c3', e3', -, -, -, hsc⟩ := BAt.at8 HS1.out (by rw [HSL.out]; omega)
      rw [HSL.out] at e3'
      simp only [Value.slice.injEq] at e3'
      obtain ⟨rfl, -, rfl⟩ := e3'
      have c0 := (HK1.out.trans hkr (fun _ _ h => h)).cell (hbc k (by rw [HN.out]; exact hlt)) (fun h => h)
      have c9 := hkr.cell (hsc k (by rw [HSL.out]; exact hlt)) (fun h => h)
      have hx := m8_xor (at8 b k) (at8 s k)
      have hfk : at8 b k ^^^ at8 s k = f k := by rw [HF.out]
      rw [hfk] at hx
      have hk2 := hkr.setCell ⟨w1.heap.size, k, none⟩ (.int .u8 ((f k).toNat : Int)) (.inr (Nat.le_refl _))
      have T4 := Lib.hid t4
      have HK2 := Lib.hid hk2
      generalize f k = z at *
      generalize at8 s k = x at *
      generalize at8 b k = y at *
      have hkI : (k : Int) < (n : Int) := by omega
      clear t3 t4 hk2 hbc hsc ho hkr hfk
      go_wp2
      refine region_draws_tail 11 (by kernel_rfl) (by kernel_rfl) ?_
      simp only [List.take_succ_cons, List.take_zero, List.drop_succ_cons, List.drop_zero]
      repeat (go_big_quiet_step (fail))
      refine wpQuiet_nil ?_
      rintro _ ⟨nq, rfl⟩
      go_wp2
      go_roundw
      case rel => exact ⟨k + 1, by omega, by go_num, T4.out.keeps ((Keeps.refl (fun _ => False) _).drewN nq) (fun _ _ h => h), HK2.out.drewN nq⟩
      case measure => simp [intOf]; omega
    · obtain rfl : k = n := by omega
      rw [HT.out] at ho
      have HO := Lib.hid ho
      have HK := Lib.hid (HK1.out.trans hkr (fun _ _ h => h))
      clear ho hkr
      go_wp2
      go_ret2
      exact ⟨_, rfl, HO.out, HK.out⟩
end Go.Proofs.YtekaoknpjpbjgaaDoor
