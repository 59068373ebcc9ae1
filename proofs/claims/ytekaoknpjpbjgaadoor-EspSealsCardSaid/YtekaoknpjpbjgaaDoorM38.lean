/- Words, walks and plain laws that the claim leans on, part 38. -/
import Derived.Test.YtekaoknpjpbjgaaDoorM18
import Derived.Test.YtekaoknpjpbjgaaDoorM20
import Derived.Test.YtekaoknpjpbjgaaDoorM37

/-! redoubtref10.Of: the digest, in ints. -/
namespace Go.Proofs.YtekaoknpjpbjgaaDoor
set_option linter.unusedVariables false
set_option linter.unusedSimpArgs false
open Go.RowKit

theorem SAt.sub {w : World} {p : Nat → Prop} {b off n c : Nat} {xs : List Value} (h : SAt w p 1 (.slice (some ⟨b, off, none⟩) n c) n xs) (k m c' : Nat) (hk : k + m ≤ n) (hc : m ≤ c') (hc' : c' ≤ c) :
    SAt w p 1 (.slice (some ⟨b, off + k, none⟩) m c') m ((xs.drop k).take m) := by
  obtain ⟨h1, a, c1, e, h3, h4, h5⟩ := h
  simp only [Value.slice.injEq, true_and] at e
  obtain ⟨e1, rfl⟩ := e
  refine ⟨by rw [List.length_take, List.length_drop]; omega, _, c', rfl, hc, by omega, ?_⟩
  rcases h5 with h5 | ⟨b', off', hb, ha, hx⟩
  · left
    rw [h5]
    simp
  · right
    rw [← e1] at ha
    simp only [Option.some.injEq, Addr.mk.injEq, and_true] at ha
    obtain ⟨rfl, rfl⟩ := ha
    refine ⟨b, off + k, hb, rfl, fun j u hu => ?_⟩
    rw [List.getElem?_take] at hu
    split at hu
    · rw [List.getElem?_drop] at hu
      rw [Nat.add_assoc]
      exact hx (k + j) u hu
    · cases hu
theorem BRd.sub {w : World} {b off c : Nat} {l : List UInt8} (h : BRd w (.slice (some ⟨b, off, none⟩) l.length c) l) (k m c' : Nat) (hk : k + m ≤ l.length) (hc : m ≤ c') (hc' : c' ≤ c) :
    BRd w (.slice (some ⟨b, off + k, none⟩) m c') ((l.drop k).take m) := by
  have h2 := SAt.sub h k m c' hk hc hc'
  have hl : ((l.drop k).take m).length = m := by rw [List.length_take, List.length_drop]; omega
  have e : ((bcells l).drop k).take m = bcells ((l.drop k).take m) := by simp [bcells, List.map_take, List.map_drop]
  rw [e] at h2
  unfold BRd BAt
  rw [hl]
  exact h2
theorem ZRd.sub {w : World} {b off c : Nat} {l : List Int} (h : ZRd w (.slice (some ⟨b, off, none⟩) l.length c) l) (k m c' : Nat) (hk : k + m ≤ l.length) (hc : m ≤ c') (hc' : c' ≤ c) :
    ZRd w (.slice (some ⟨b, off + k, none⟩) m c') ((l.drop k).take m) := by
  have h2 := SAt.sub h k m c' hk hc hc'
  have hl : ((l.drop k).take m).length = m := by rw [List.length_take, List.length_drop]; omega
  have e : ((zcells l).drop k).take m = zcells ((l.drop k).take m) := by simp [zcells, List.map_take, List.map_drop]
  rw [e] at h2
  unfold ZRd ZAt
  rw [hl]
  exact h2
theorem kzs_tail : (kzs.drop 64).take 8 = szs s0 := rfl
theorem absorbN_snoc (j : Nat) : ∀ (s : S8) (M : List UInt8), absorbN (j + 1) s M = addS (absorbN j s M) ((M.drop (64 * j)).take 64) := by
  induction j with
  | zero => intro s M; rfl
  | succ j ih =>
    intro s M
    rw [absorbN, ih, absorbN, List.drop_drop, show 64 + 64 * j = 64 * (j + 1) by omega]
theorem len8_parts (N : Nat) (h : N ≤ 1000000000) : len8 N = b4 (UInt32.ofNat (8 * N / 4294967296)) ++ b4 (UInt32.ofNat (8 * N % 4294967296)) := by
  have e1 : (UInt32.ofNat (8 * N / 4294967296)).toNat = 8 * N / 4294967296 := ofNat_toNat (by omega)
  have e2 : (UInt32.ofNat (8 * N % 4294967296)).toNat = 8 * N % 4294967296 := ofNat_toNat (by omega)
  unfold b4 len8
  rw [e1, e2]
  have r8 : List.range 8 = [0, 1, 2, 3, 4, 5, 6, 7] := rfl
  rw [r8]
  simp only [List.map_cons, List.map_nil, List.cons_append, List.nil_append, List.cons.injEq, and_true]
  refine ⟨?_, ?_, ?_, ?_, ?_, ?_, ?_, ?_⟩ <;> apply UInt8.toNat_inj.1 <;> rw [UInt8.toNat_ofNat', UInt8.toNat_ofNat'] <;> simp <;> omega

set_option maxRecDepth 100000 in
set_option maxHeartbeats 4000000 in
theorem rof_any (v : Value) (l : List UInt8) (w : World) (h : BRd w v l) (hl : l.length ≤ 1000000) :
    Calls Tryd.prog 72 #[v] w (Gives (sha l) w) := by
  obtain ⟨a, c, rfl, hc, hm⟩ := h.slice
  simp only [maxLen] at hm
  obtain ⟨N, hN⟩ : ∃ N, l.length = N := ⟨_, rfl⟩
  rw [hN] at h hc hl ⊢
  obtain ⟨Z, hZ⟩ : ∃ Z, (119 - N % 64) % 64 = Z := ⟨_, rfl⟩
  have hZl : Z < 64 := by omega
  have HN := Lib.hid hN
  clear hN
  go_enter Tryd.func72, Tryd.ntmps72
  go_wp2_with fail
  have hone := BAt.one w 128 128 5 rfl
  have hkA := (Keeps.refl (fun _ => False) w).alloc (.cells #[.int .u8 128] 5)
  have hbb := BBAt.pair (T := 25) (h.keeps hkA) hone.low
  rw [size_alloc] at hbb
  have hfl : [l, [128]].flatten = l ++ 128 :: List.replicate 0 0 := by simp
  refine (both_any _ [l, [128]] _ hbb.low (by rw [hfl, List.length_append, HN.out]; simp; omega)).mono ?_
  rintro e w1 ⟨mv, rfl, hm1, hk1⟩
  rw [hfl] at hm1
  have hkB : Keeps (fun _ => False) w w1 := (hkA.alloc _).trans hk1 (fun _ _ h => h)
  have hm1' := hm1.mono (show w.heap.size ≤ _ from (hkA.alloc _).size)
  clear hbb hone hfl hk1 hm1 hkA
  go_wp2
  go_loopw [3] (fun u3 wr => ∃ (k n c : Nat) (a : Option Addr), k ≤ Z ∧ n = N + 1 + k ∧ u3 = .slice a n c ∧ BOwn wr w.heap.size u3 (l ++ 128 :: List.replicate k 0) ∧ Keeps (fun _ => False) w wr) (fun u3 _ => match u3 with | .slice _ n _ => N + 1 + Z - n | _ => 0)
  case atStart =>
    obtain ⟨a1, c1, rfl, -, -⟩ := hm1'.slice
    exact ⟨0, N + 1, c1, a1, by omega, by omega, by rw [List.length_append, HN.out]; simp, hm1', hkB⟩
  case round =>
    obtain ⟨k, n, c1, a1, hk, hn, rfl, ho, hkw⟩ := hrel
    have hnl : (l ++ 128 :: List.replicate k (0 : UInt8)).length = n := by rw [List.length_append, HN.out]; simp; omega
    by_cases hlt : k < Z
    · have hne : ¬ ((n : Int) % 64 = 56) := by omega
      obtain ⟨v2, w2, hrun, ho2, hk2, -⟩ := run_append_bytes (ty := 25) (ho.keeps ((Keeps.refl (fun _ => False) wr).alloc (.cells #[.int .u8 0] 5)) (fun _ _ h => h)) (BAt.one wr 0 0 5 rfl) (by rw [hnl]; simp; omega) ((hkw.alloc _).size)
      rw [List.append_assoc, List.cons_append, ← List.replicate_succ'] at ho2
      have hl2 : (l ++ 128 :: List.replicate (k + 1) (0 : UInt8)).length = n + 1 := by rw [List.length_append, HN.out]; simp; omega
      obtain ⟨a2, c2, rfl, -, -⟩ := ho2.slice
      rw [hl2] at hrun ho2
      have HR := Lib.hid hrun
      have H2 := Lib.hid hl2
      have HNN := Lib.hid hn
      clear hrun hnl hl2 hn
      go_wp2_with (at_builtin; refine Lib.wpList_append_run _ rfl _ _ _ _ rfl _ _ rfl rfl _ _ HR.out ?_)
      go_roundw
      case rel => exact ⟨k + 1, n + 1, c2, a2, by omega, by have := HNN.out; omega, by trivial, ho2, (hkw.alloc _).from hk2 (fun b hb => (ho.block b hb).1)⟩
      case measure => have := HNN.out; simp; omega
    · have he : (n : Int) % 64 = 56 := by omega
      obtain rfl : k = Z := by omega
      obtain ⟨hi, hhi⟩ : ∃ x, UInt32.ofNat (8 * N / 4294967296) = x := ⟨_, rfl⟩
      obtain ⟨lo, hlo⟩ : ∃ x, UInt32.ofNat (8 * N % 4294967296) = x := ⟨_, rfl⟩
      have e1 : (8 * (N : Int)) / 4294967296 = (hi.toNat : Int) := by rw [← hhi, ofNat_toNat (by omega)]; omega
      have e2 : (8 * (N : Int)) % 4294967296 = (lo.toNat : Int) := by rw [← hlo, ofNat_toNat (by omega)]; omega
      have h8 := len8_parts N (by omega)
      rw [hhi, hlo] at h8
      obtain ⟨M, hM⟩ : ∃ M, l ++ tailOf N = M := ⟨_, rfl⟩
      have hnb : n ≤ 1000100 := by omega
      have hMl : M.length = n + 8 := by
        rw [← hM, ← hnl, tailOf, hZ]
        simp [len8]
        omega
      have hMf : [l ++ 128 :: List.replicate k 0, b4 hi, b4 lo].flatten = M := by
        rw [← hM, tailOf, hZ, h8]
        simp
      have h64 : n % 64 = 56 := by omega
      obtain ⟨B, hB⟩ : ∃ B, n + 8 = 64 * B := ⟨(n + 8) / 64, by omega⟩
      have hBl : B ≤ 20000 := by omega
      have hN0 : (0 : Int) ≤ (N : Int) := by omega
      have hN1 : (N : Int) ≤ 1000000 := by omega
      have hsha : sha l = outOf (absorbN B s0 M) := by
        unfold sha absorb
        rw [HN.out, hM, hMl, hB, Nat.mul_div_cancel_left _ (by omega)]
      have HS := Lib.hid hsha
      have HB := Lib.hid hB
      have HML := Lib.hid hMl
      have ho' := ho
      clear hhi hlo h8 hM hMl hB hZ hsha h64 hn hnl
      go_wp2_with fail
      refine (four_any hi _).mono ?_
      rintro e w2 ⟨hv, rfl, hh, hk2⟩
      have hkC := hkw.trans hk2 (fun _ _ h => h)
      have hH2 : BRd w2 hv (b4 hi) := hh.bat.low
      have hO2 := ho'.keeps hk2 (fun _ _ h => h)
      obtain ⟨ha, hc0, rfl, -, -⟩ := hH2.slice
      rw [show (b4 hi).length = 4 from rfl] at hH2 ⊢
      clear hh hk2
      go_wp2_with fail
      refine (four_any lo _).mono ?_
      rintro e w3 ⟨lv, rfl, hh, hk3⟩
      have hkD := hkC.trans hk3 (fun _ _ h => h)
      have hL3 : BRd w3 lv (b4 lo) := hh.bat.low
      have hH3 := hH2.keeps hk3
      have hO3 := hO2.keeps hk3 (fun _ _ h => h)
      obtain ⟨la, lc0, rfl, -, -⟩ := hL3.slice
      rw [show (b4 lo).length = 4 from rfl] at hL3 ⊢
      clear hh hk3 hkC hH2 hO2
      go_wp2_with fail
      refine (both_any _ [l ++ 128 :: List.replicate k 0, b4 hi, b4 lo] _ (BBAt.three (T := 25) hO3.bat.low hH3 hL3).low (by rw [hMf, HML.out]; omega)).mono ?_
      rintro e w4 ⟨Mv, rfl, hM4, hk4⟩
      rw [hMf] at hM4
      have hkE := (hkD.alloc _).trans hk4 (fun _ _ h => h)
      have hMR : BRd w4 Mv M := hM4.bat.low
      obtain ⟨mg, mo, mc, rfl, hmc, hmm, -⟩ := hM4.place (by rw [HML.out]; omega)
      obtain ⟨L, hLe⟩ : ∃ L, n + 8 = L := ⟨_, rfl⟩
      have hml : M.length = L := by rw [HML.out, hLe]
      have hLB : L = 64 * B := by rw [← hLe, HB.out]
      have hLb : L ≤ 1000108 := by omega
      rw [hml] at hmc ⊢
      simp only [maxLen] at hmm
      clear hk4 hM4 hkD hO3 hH3 hL3 hMf e1 e2 he ho ho'
      have HML2 := Lib.hid hml
      have HLB := Lib.hid hLB
      clear hml hLB hLe
      go_wp2_with fail
      refine (consts_any _).mono ?_
      rintro e w5 ⟨kv, rfl, hc5, hk5⟩
      have hkF := hkE.trans hk5 (fun _ _ h => h)
      have hM5 := hMR.keeps hk5
      obtain ⟨kg, ko, kc, rfl, hkc, hkm, -⟩ := hc5.place (by decide)
      have hS5 : ZRd w5 (.slice (some ⟨kg, ko + 64, none⟩) 8 (kc - 64)) (szs s0) := by
        have := ZRd.sub (h := hc5.bat.low) 64 8 (kc - 64) (by decide) (by rw [show kzs.length = 72 from by decide] at hkc; omega) (by omega)
        rwa [kzs_tail] at this
      rw [show kzs.length = 72 from by decide] at hkc ⊢
      have hk64 : ¬ kc = 64 := by omega
      have hkc' : (64 : Int) ≤ (kc : Int) := by omega
      simp only [maxLen] at hkm
      clear hk5 hMR hc5 hkE
      go_wp2_with fail
      go_loopw [4, 5] (fun u4 u5 wr => ∃ j i : Nat, j ≤ B ∧ i = 64 * j ∧ u5 = .int .i64 i ∧ (∃ a c, u4 = .slice a 8 c) ∧ ZRd wr u4 (szs (absorbN j s0 M)) ∧ Keeps (fun _ => False) w wr ∧ Keeps (fun _ => False) w5 wr) (fun _ u5 _ => L - (intOf u5).toNat)
      case atStart => exact ⟨0, 0, by omega, by omega, rfl, ⟨_, _, rfl⟩, hS5, hkF, Keeps.refl _ _⟩
      case round =>
        obtain ⟨j, i, hj, hi', rfl, ⟨sa, sc, rfl⟩, hs, hkw, hk5⟩ := hrel
        have hLB := HLB.out
        by_cases hlt : j < B
        · have hi1 : i + 64 ≤ L := by omega
          have g1 : (i : Int) + 64 ≤ (L : Int) := by omega
          have g2 : (L : Int) ≤ (mc : Int) := by omega
          have g3 : ¬ mc = i := by omega
          have g4 : (i : Int) < (L : Int) := by omega
          have hMs : BRd wr (.slice (some ⟨mg, mo + i, none⟩) 64 (mc - i)) ((M.drop i).take 64) := by
            have h1 := hM5.keeps hk5
            exact BRd.sub h1 i 64 (mc - i) (by rw [HML2.out]; exact hi1) (by omega) (by omega)
          have hMsl : ((M.drop i).take 64).length = 64 := by rw [List.length_take, List.length_drop, HML2.out]; omega
          have hab := absorbN_snoc j s0 M
          rw [← hi'] at hab
          have HI := Lib.hid hi'
          have HA := Lib.hid hab
          have HG := Lib.hid hMsl
          have HMs := Lib.hid hMs
          have Hs := Lib.hid hs
          clear hi' hab hMsl hLB hMs hs
          go_wp2_with fail
          refine (rround_any _ _ (absorbN j s0 M) ((M.drop i).take 64) _ Hs.out HMs.out HG.out).mono ?_
          rintro e w6 ⟨x, rfl, hx, hk6⟩
          rw [← HA.out] at hx
          obtain ⟨xg, xo, xc, rfl, -, -, -⟩ := hx.place (by rw [szs_length]; omega)
          rw [szs_length] at hx ⊢
          go_wp2
          go_roundw
          case rel => exact ⟨j + 1, i + 64, by omega, by have := HI.out; omega, by go_num, ⟨_, _, rfl⟩, hx.bat.low, hkw.trans hk6 (fun _ _ h => h), hk5.trans hk6 (fun _ _ h => h)⟩
          case measure => simp [intOf]; omega
        · obtain rfl : j = B := by omega
          have g4 : (L : Int) ≤ (i : Int) := by omega
          obtain ⟨F, hF⟩ : ∃ F, absorbN j s0 M = F := ⟨_, rfl⟩
          rw [hF] at hs
          have hsh := HS.out
          rw [hF] at hsh
          have HSH := Lib.hid hsh
          clear hF hsh hi' hLB hS5 hM5
          obtain ⟨sb, so, sc', e, -, -, -, hcell⟩ := ZAt.get hs (by rw [szs_length]; omega)
          simp only [Value.slice.injEq] at e
          obtain ⟨rfl, -, rfl⟩ := e
          have hcell' : ∀ i, i < 8 → wr.cell? ⟨sb, so + i, none⟩ = some (.int .i64 (((words8 F).getD i 0).toNat : Int)) := fun i hi => by
            rw [hcell i (by rw [szs_length]; exact hi)]
            exact congrArg (fun z => some (Value.int .i64 z)) (zs_get (words8 F) i hi)
          have HC := Lib.hid hcell'
          clear hcell hcell'
          go_wp2
          simp only [show decide (i < L) = false from decide_eq_false (by omega)]
          clear g4 hlt hj
          go_loopw [8, 9] (fun u8 u9 wq => ∃ i : Nat, i ≤ 8 ∧ u9 = .int .i64 i ∧ BOwn wq wr.heap.size u8 (((words8 F).take i).map b4).flatten ∧ Keeps (fun _ => False) wr wq) (fun _ u9 _ => 8 - (intOf u9).toNat)
          case atStart => exact ⟨0, by omega, rfl, BOwn.nil _ _, Keeps.refl _ _⟩
          case round =>
            obtain ⟨q, hq, rfl, ho, hkr⟩ := hrel
            by_cases hlt8 : q < 8
            · have c1 := hkr.cell (HC.out q hlt8) (fun h => h)
              have hst := out_step F q hlt8
              have hol := out_len F q
              obtain ⟨x, hx⟩ : ∃ x, (words8 F).getD q 0 = x := ⟨_, rfl⟩
              rw [hx] at c1 hst
              have hq8 : (q : Int) < 8 := by omega
              have HST := Lib.hid hst
              clear hst hx
              go_wp2_with fail
              refine (four_any x _).mono ?_
              rintro e w7 ⟨fv, rfl, hf7, hk7⟩
              obtain ⟨ov, w8, hrun, ho2, hk8, -⟩ := run_append_bytes (ty := 25) (ho.keeps hk7 (fun _ _ h => h)) hf7.bat (by have : (b4 x).length = 4 := rfl; omega) ((hkr.trans hk7 (fun _ _ h => h)).size)
              rw [HST.out] at ho2
              have HR := Lib.hid hrun
              clear hrun
              go_wp2_with (at_builtin; refine Lib.wpList_append_run _ rfl _ _ _ _ rfl _ _ rfl rfl _ _ HR.out ?_)
              go_roundw
              case rel => exact ⟨q + 1, by omega, by go_num, ho2, (hkr.trans hk7 (fun _ _ h => h)).from hk8 (fun b hb => (ho.block b hb).1)⟩
              case measure => simp [intOf]; omega
            · have hq8 : q = 8 := by omega
              have hq8' : (8 : Int) ≤ (q : Int) := by omega
              rw [hq8] at ho
              clear hq8
              go_wp2
              go_ret
              exact ⟨_, rfl, by rw [HSH.out]; exact ho.mono hkw.size, hkw.trans hkr (fun _ _ h => h)⟩
end Go.Proofs.YtekaoknpjpbjgaaDoor

/-! redoubtref11.Full, Tag. -/
namespace Go.Proofs.YtekaoknpjpbjgaaDoor
set_option linter.unusedVariables false
set_option linter.unusedSimpArgs false
open Go.RowKit

theorem padK_short (key : List UInt8) (h : key.length ≤ 64) : padK key = key ++ List.replicate (64 - key.length) 0 := by
  unfold padK keyOf
  rw [if_neg (by omega)]
theorem padK_long (key : List UInt8) (h : 64 < key.length) : padK key = sha key ++ List.replicate (64 - (sha key).length) 0 := by
  unfold padK keyOf
  rw [if_pos h]


set_option maxRecDepth 100000 in
set_option maxHeartbeats 4000000 in
theorem rfull_any (kv bv : Value) (key b : List UInt8) (w : World) (hk : BRd w kv key) (hb : BRd w bv b) (hkl : key.length ≤ 1000) (hbl : b.length ≤ 10000) :
    Calls Tryd.prog 58 #[kv, bv] w (Gives (hmac key b) w) := by
  obtain ⟨ka, kc, rfl, hkc, hkm⟩ := hk.slice
  obtain ⟨ba, bc, rfl, hbc, hbm⟩ := hb.slice
  simp only [maxLen] at hkm hbm
  go_enter Tryd.func58, Tryd.ntmps58
  by_cases h64 : 64 < key.length
  · have h64' : (64 : Int) < (key.length : Int) := by omega
    have HP := Lib.hid (padK_long key h64)
    have hsl := sha_len key
    go_wp2_with fail
    refine (rof_any _ key _ hk (by omega)).mono ?_
    rintro e w1 ⟨sv, rfl, hs1, hk1⟩
    have hS1 : BRd w1 sv (sha key) := hs1.bat.low
    clear hs1 h64 h64'
    go_wp2_with fail
    refine (rwith_any _ (sha key) 54 _ hS1 (by omega)).mono ?_
    rintro e w2 ⟨iv, rfl, hi2, hk2⟩
    have hkB := hk1.trans hk2 (fun _ _ h => h)
    have hI2 : BRd w2 iv _ := hi2.bat.low
    have hil : (withL (sha key ++ List.replicate (64 - (sha key).length) 0) 54).length = 64 := by simp [withL]; omega
    rw [← HP.out] at hI2 hil
    obtain ⟨ia, ic, rfl, -, -⟩ := hI2.slice
    rw [hil] at hI2 ⊢
    have hK2 := (hS1).keeps hk2
    clear hi2 hk2
    go_wp2_with fail
    refine (both_any _ [withL (padK key) 54, b] _ (BBAt.pair (T := 25) hI2 (hb.keeps hkB)).low (by simp [hil]; omega)).mono ?_
    rintro e w3 ⟨jv, rfl, hj3, hk3⟩
    have hkC := (hkB.alloc _).trans hk3 (fun _ _ h => h)
    have hJ3 : BRd w3 jv _ := hj3.bat.low
    rw [show [withL (padK key) 54, b].flatten = withL (padK key) 54 ++ b by simp] at hJ3
    have hK3 := (hK2.keeps ((Keeps.refl _ w2).alloc _)).keeps hk3
    clear hj3 hk3 hI2 hK2 hkB
    go_wp2_with fail
    refine (rof_any _ (withL (padK key) 54 ++ b) _ hJ3 (by rw [List.length_append, hil]; omega)).mono ?_
    rintro e w4 ⟨nv, rfl, hn4, hk4⟩
    have hkD := hkC.trans hk4 (fun _ _ h => h)
    have hN4 : BRd w4 nv _ := hn4.bat.low
    obtain ⟨na, nc, rfl, -, -⟩ := hN4.slice
    rw [sha_len] at hN4 ⊢
    have hK4 := hK3.keeps hk4
    clear hn4 hk4 hK3 hJ3 hkC hil
    go_wp2_with fail
    refine (rwith_any _ (sha key) 92 _ hK4 (by omega)).mono ?_
    rintro e w5 ⟨ov, rfl, ho5, hk5⟩
    have hkE := hkD.trans hk5 (fun _ _ h => h)
    have hO5 : BRd w5 ov _ := ho5.bat.low
    have hol : (withL (sha key ++ List.replicate (64 - (sha key).length) 0) 92).length = 64 := by simp [withL]; omega
    rw [← HP.out] at hO5 hol
    obtain ⟨oa, oc, rfl, -, -⟩ := hO5.slice
    rw [hol] at hO5 ⊢
    have hN5 := hN4.keeps hk5
    clear ho5 hk5 hN4 hK4 hkD
    go_wp2_with fail
    refine (both_any _ [withL (padK key) 92, sha (withL (padK key) 54 ++ b)] _ (BBAt.pair (T := 25) hO5 hN5).low (by simp [hol, sha_len])).mono ?_
    rintro e w6 ⟨qv, rfl, hq6, hk6⟩
    have hkF := (hkE.alloc _).trans hk6 (fun _ _ h => h)
    have hQ6 : BRd w6 qv _ := hq6.bat.low
    rw [show [withL (padK key) 92, sha (withL (padK key) 54 ++ b)].flatten = withL (padK key) 92 ++ sha (withL (padK key) 54 ++ b) by simp] at hQ6
    clear hq6 hk6 hO5 hN5 hkE
    go_wp2_with fail
    refine (rof_any _ (withL (padK key) 92 ++ sha (withL (padK key) 54 ++ b)) _ hQ6 (by rw [List.length_append, hol, sha_len]; omega)).mono ?_
    rintro e w7 ⟨rv, rfl, hr7, hk7⟩
    go_wp2
    go_ret
    exact ⟨_, rfl, hr7.mono hkF.size, hkF.trans hk7 (fun _ _ h => h)⟩
  · have h64' : (key.length : Int) ≤ 64 := by omega
    have HP := Lib.hid (padK_short key (by omega))
    go_wp2_with fail
    refine (rwith_any _ (key) 54 _ hk (by omega)).mono ?_
    rintro e w2 ⟨iv, rfl, hi2, hk2⟩
    have hkB := (Keeps.refl (fun _ => False) w).trans hk2 (fun _ _ h => h)
    have hI2 : BRd w2 iv _ := hi2.bat.low
    have hil : (withL (key ++ List.replicate (64 - (key).length) 0) 54).length = 64 := by simp [withL]; omega
    rw [← HP.out] at hI2 hil
    obtain ⟨ia, ic, rfl, -, -⟩ := hI2.slice
    rw [hil] at hI2 ⊢
    have hK2 := (hk).keeps hk2
    clear hi2 hk2
    go_wp2_with fail
    refine (both_any _ [withL (padK key) 54, b] _ (BBAt.pair (T := 25) hI2 (hb.keeps hkB)).low (by simp [hil]; omega)).mono ?_
    rintro e w3 ⟨jv, rfl, hj3, hk3⟩
    have hkC := (hkB.alloc _).trans hk3 (fun _ _ h => h)
    have hJ3 : BRd w3 jv _ := hj3.bat.low
    rw [show [withL (padK key) 54, b].flatten = withL (padK key) 54 ++ b by simp] at hJ3
    have hK3 := (hK2.keeps ((Keeps.refl _ w2).alloc _)).keeps hk3
    clear hj3 hk3 hI2 hK2 hkB
    go_wp2_with fail
    refine (rof_any _ (withL (padK key) 54 ++ b) _ hJ3 (by rw [List.length_append, hil]; omega)).mono ?_
    rintro e w4 ⟨nv, rfl, hn4, hk4⟩
    have hkD := hkC.trans hk4 (fun _ _ h => h)
    have hN4 : BRd w4 nv _ := hn4.bat.low
    obtain ⟨na, nc, rfl, -, -⟩ := hN4.slice
    rw [sha_len] at hN4 ⊢
    have hK4 := hK3.keeps hk4
    clear hn4 hk4 hK3 hJ3 hkC hil
    go_wp2_with fail
    refine (rwith_any _ (key) 92 _ hK4 (by omega)).mono ?_
    rintro e w5 ⟨ov, rfl, ho5, hk5⟩
    have hkE := hkD.trans hk5 (fun _ _ h => h)
    have hO5 : BRd w5 ov _ := ho5.bat.low
    have hol : (withL (key ++ List.replicate (64 - (key).length) 0) 92).length = 64 := by simp [withL]; omega
    rw [← HP.out] at hO5 hol
    obtain ⟨oa, oc, rfl, -, -⟩ := hO5.slice
    rw [hol] at hO5 ⊢
    have hN5 := hN4.keeps hk5
    clear ho5 hk5 hN4 hK4 hkD
    go_wp2_with fail
    refine (both_any _ [withL (padK key) 92, sha (withL (padK key) 54 ++ b)] _ (BBAt.pair (T := 25) hO5 hN5).low (by simp [hol, sha_len])).mono ?_
    rintro e w6 ⟨qv, rfl, hq6, hk6⟩
    have hkF := (hkE.alloc _).trans hk6 (fun _ _ h => h)
    have hQ6 : BRd w6 qv _ := hq6.bat.low
    rw [show [withL (padK key) 92, sha (withL (padK key) 54 ++ b)].flatten = withL (padK key) 92 ++ sha (withL (padK key) 54 ++ b) by simp] at hQ6
    clear hq6 hk6 hO5 hN5 hkE
    go_wp2_with fail
    refine (rof_any _ (withL (padK key) 92 ++ sha (withL (padK key) 54 ++ b)) _ hQ6 (by rw [List.length_append, hol, sha_len]; omega)).mono ?_
    rintro e w7 ⟨rv, rfl, hr7, hk7⟩
    go_wp2
    go_ret
    exact ⟨_, rfl, hr7.mono hkF.size, hkF.trans hk7 (fun _ _ h => h)⟩

set_option maxRecDepth 100000 in
set_option maxHeartbeats 1000000 in
theorem rtag_bad (kv bv : Value) (key : List UInt8) (w : World) (hk : BRd w kv key) (h : (key.length : Int) ≠ 32) :
    Calls Tryd.prog 47 #[kv, bv] w fun e w' => e = .returned (.tuple #[.slice none 0 0, .int .i64 1]) ∧ w' = w := by
  obtain ⟨ka, kc, rfl, hkc, hkm⟩ := hk.slice
  go_enter Tryd.func47, Tryd.ntmps47
  go_wp2
  go_ret2
  exact ⟨rfl, rfl⟩

set_option maxRecDepth 100000 in
set_option maxHeartbeats 1000000 in
theorem rtag_ok (kv bv : Value) (key b : List UInt8) (w : World) (hk : BRd w kv key) (hb : BRd w bv b) (hbl : b.length ≤ 10000) (h : key.length = 32) :
    Calls Tryd.prog 47 #[kv, bv] w fun e w' => ∃ v, e = .returned (.tuple #[v, .int .i64 0]) ∧ BOwn w' w.heap.size v ((hmac key b).take 16) ∧ Keeps (fun _ => False) w w' := by
  obtain ⟨ka, kc, rfl, hkc, hkm⟩ := hk.slice
  have H := Lib.hid h
  rw [h]
  rw [h] at hkc hk
  clear h
  go_enter Tryd.func47, Tryd.ntmps47
  go_wp2_with fail
  refine (rfull_any _ _ key b _ hk hb (by have := H.out; omega) hbl).mono ?_
  rintro e w3 ⟨v3, rfl, ho3, hk3⟩
  obtain ⟨g, off, c, rfl, hc, hm, hg⟩ := ho3.place (by rw [hmac_len]; omega)
  have hf := ho3.first 16 c (by rw [hmac_len]; omega) (by rw [hmac_len] at hc; omega) (Nat.le_refl _)
  rw [hmac_len] at hc ho3 ⊢
  simp only [maxLen] at hm
  have hc16 : (16 : Int) ≤ c := by omega
  go_wp2
  go_ret2
  exact ⟨_, rfl, hf, hk3⟩
end Go.Proofs.YtekaoknpjpbjgaaDoor
