/- Words, walks and plain laws that the claim leans on, part 37. -/
import Derived.Test.YtekaoknpjpbjgaaDoorM7
import Derived.Test.YtekaoknpjpbjgaaDoorM18
import Derived.Test.YtekaoknpjpbjgaaDoorM35

/-! redoubtref10.State: numbers of 32 bits. -/
namespace Go.Proofs.YtekaoknpjpbjgaaDoor
set_option linter.unusedVariables false
set_option linter.unusedSimpArgs false
open Go.RowKit

/-- Numbers as ints. -/
def zs (l : List UInt32) : List Int := l.map fun x => (x.toNat : Int)
theorem zs_length (l : List UInt32) : (zs l).length = l.length := by simp [zs]
theorem zs_get (l : List UInt32) (i : Nat) (h : i < (zs l).length) : (zs l)[i] = ((l.getD i 0).toNat : Int) := by
  have h' : i < l.length := by simpa [zs] using h
  simp [zs, h']

set_option maxRecDepth 100000 in
set_option maxHeartbeats 1000000 in
theorem state_any (v : Value) (l : List UInt32) (w : World) (h : ZRd w v (zs l)) (h8 : l.length = 8) :
    Calls Tryd.prog 92 #[v] w fun e w' => e = .returned (.bool true) ∧ w = w' := by
  obtain ⟨b, off, c, rfl, hc, hm, hb, hcell⟩ := ZAt.get h (by rw [zs_length]; omega)
  rw [zs_length, h8] at hc ⊢
  have hcell' : ∀ i, i < 8 → w.cell? ⟨b, off + i, none⟩ = some (.int .i64 ((l.getD i 0).toNat : Int)) := fun i hi => by
    rw [hcell i (by rw [zs_length]; omega), zs_get]
  have H8 := Lib.hid h8
  clear h8 hcell h
  go_enter Tryd.func92, Tryd.ntmps92
  go_wp2
  go_loopw [3] (fun u3 wr => ∃ k : Nat, k ≤ 8 ∧ u3 = .int .i64 k ∧ w = wr) (fun u3 _ => 8 - (intOf u3).toNat)
  case atStart => exact ⟨0, by omega, rfl, rfl⟩
  case round =>
    obtain ⟨k, hk, rfl, rfl⟩ := hrel
    by_cases hlt : k < 8
    · have hx := hcell' k hlt
      have hl := u32_lt (l.getD k 0)
      obtain ⟨X, hX⟩ : ∃ X, (l.getD k 0).toNat = X := ⟨_, rfl⟩
      rw [hX] at hx hl
      have h0 : (0 : Int) ≤ (X : Int) := by omega
      have h1 : (X : Int) ≤ 4294967295 := by omega
      clear hcell' hX hl
      go_wp2
      go_roundw
      case rel => exact ⟨k + 1, by omega, by go_num, by trivial⟩
      case measure => simp [intOf]; omega
    · have hk8 : (8 : Int) ≤ (k : Int) := by omega
      go_wp2
      go_ret
      exact ⟨rfl, rfl⟩
end Go.Proofs.YtekaoknpjpbjgaaDoor

/-! redoubtref10.Words: the words of a block, as ints. -/
namespace Go.Proofs.YtekaoknpjpbjgaaDoor
set_option linter.unusedVariables false
set_option linter.unusedSimpArgs false
open Go.RowKit

theorem zs_append (l m : List UInt32) : zs (l ++ m) = zs l ++ zs m := by simp [zs]
theorem or_sum (A y : Nat) (hA : A < 16777216) (hy : y < 256) : (A * 256 % 4294967296 ||| y) = A * 256 + y := by
  rw [Nat.mod_eq_of_lt (by omega), show A * 256 = A <<< 8 by rw [Nat.shiftLeft_eq], ← Nat.shiftLeft_add_eq_or_of_lt (by omega)]
def bstep (A : UInt32) (y : UInt8) : UInt32 := UInt32.ofNat ((A.toNat * 256 % 4294967296) ||| y.toNat)
theorem bstep_nat (A : UInt32) (y : UInt8) (hA : A.toNat < 16777216) : (bstep A y).toNat = A.toNat * 256 + y.toNat := by
  have hy := y.toNat_lt
  unfold bstep
  rw [or_sum _ _ hA (by omega), ofNat_toNat (by omega)]
theorem bacc_steps (a b c d : UInt8) : bacc [a, b, c, d] = bstep (bstep (bstep (bstep 0 a) b) c) d := rfl
theorem bacc4 (a b c d : UInt8) : (bacc [a, b, c, d]).toNat = 16777216 * a.toNat + 65536 * b.toNat + 256 * c.toNat + d.toNat := by
  have ha := a.toNat_lt
  have hb := b.toNat_lt
  have hc := c.toNat_lt
  have h0 : (0 : UInt32).toNat = 0 := by decide
  rw [bacc_steps]
  have h1 := bstep_nat 0 a (by omega)
  have h2 := bstep_nat (bstep 0 a) b (by omega)
  have h3 := bstep_nat (bstep (bstep 0 a) b) c (by omega)
  rw [bstep_nat _ d (by omega)]
  omega
theorem i64_fit (x : Int) (h1 : -9223372036854775808 ≤ x) (h2 : x ≤ 9223372036854775807) : IntKind.i64.wrap x = x := by
  simp [IntKind.wrap, IntKind.bits, IntKind.signed]
  omega
theorem zw_low (l : List UInt8) (k : Nat) (hk : k < 16) (hl : l.length = 64) :
    (wnext l (wlist l k)).toNat = 16777216 * (l.getD (4 * k) 0).toNat + 65536 * (l.getD (4 * k + 1) 0).toNat + 256 * (l.getD (4 * k + 2) 0).toNat + (l.getD (4 * k + 3) 0).toNat := by
  unfold wnext
  rw [wlist_length, if_pos hk]
  have e : (l.drop (4 * k)).take 4 = [l.getD (4 * k) 0, l.getD (4 * k + 1) 0, l.getD (4 * k + 2) 0, l.getD (4 * k + 3) 0] := by
    apply List.ext_getElem?
    intro j
    by_cases hj : j < 4
    · rw [List.getElem?_take, if_pos hj, List.getElem?_drop]
      match j, hj with
      | 0, _ => simp [show 4 * k < l.length by omega]
      | 1, _ => simp [show 4 * k + 1 < l.length by omega]
      | 2, _ => simp [show 4 * k + 2 < l.length by omega]
      | 3, _ => simp [show 4 * k + 3 < l.length by omega]
    · rw [List.getElem?_take, if_neg hj, List.getElem?_eq_none (by simp; omega)]
  rw [e, bacc4]
theorem zw_high (l : List UInt8) (k a16 a15 a7 a2 : Nat) (h16 : a16 + 16 = k) (h15 : a15 + 15 = k) (h7 : a7 + 7 = k) (h2 : a2 + 2 = k) :
    wnext l (wlist l k) = (wlist l k).getD a16 0 + (rotr ((wlist l k).getD a15 0) 7 ^^^ rotr ((wlist l k).getD a15 0) 18 ^^^ shrN ((wlist l k).getD a15 0) 3) + (wlist l k).getD a7 0 +
      (rotr ((wlist l k).getD a2 0) 17 ^^^ rotr ((wlist l k).getD a2 0) 19 ^^^ shrN ((wlist l k).getD a2 0) 10) := by
  unfold wnext
  rw [wlist_length, if_neg (by omega), show k - 16 = a16 by omega, show k - 15 = a15 by omega, show k - 7 = a7 by omega, show k - 2 = a2 by omega]

theorem wrap64_u32 (x : UInt32) : wrap64 (x.toNat : Int) = (x.toNat : Int) := by
  have h := u32_lt x
  unfold wrap64
  omega
theorem turn_k (x : UInt32) (n : Nat) (w : World) (h1 : 1 ≤ n) (h2 : n ≤ 31) :
    Calls Tryd.prog 93 #[.int .i64 x.toNat, .int .i64 n] w fun e w' => e = .returned (.int .i64 ((rotr x n).toNat : Int)) ∧ Keeps (fun _ => False) w w' :=
  (turn_any x n w h1 h2).mono fun e w' ⟨he, m, hm⟩ => ⟨he, hm ▸ (Keeps.refl _ w).drewN m⟩
theorem zs_one (x : UInt32) (z : Int) (h : z = (x.toNat : Int)) : [z] = zs [x] := by rw [h]; rfl

set_option maxRecDepth 100000 in
set_option maxHeartbeats 4000000 in
theorem rwords_any (v : Value) (l : List UInt8) (w : World) (h : BRd w v l) (hl : l.length = 64) :
    Calls Tryd.prog 91 #[v] w fun e w' => ∃ x, e = .returned (.tuple #[x, .int .i64 0]) ∧ ZOwn w' w.heap.size x (zs (wlist l 64)) ∧ Keeps (fun _ => False) w w' := by
  obtain ⟨b, off, c, rfl, hc, hm, hb, hcell⟩ := BAt.get h (by omega)
  rw [hl] at hc ⊢
  simp only [maxLen] at hm
  have hcell' : ∀ i, i < 64 → w.cell? ⟨b, off + i, none⟩ = some (.int .u8 ((l.getD i 0).toNat : Int)) := fun i hi => by
    rw [hcell i (by omega)]
    simp [show i < l.length by omega]
  have HL := Lib.hid hl
  clear hl hcell h
  go_enter Tryd.func91, Tryd.ntmps91
  go_wp2
  go_loopw [4, 5] (fun u4 u5 wr => ∃ k : Nat, k ≤ 64 ∧ u5 = .int .i64 k ∧ ZOwn wr w.heap.size u4 (zs (wlist l k)) ∧ Keeps (fun _ => False) w wr) (fun _ u5 _ => 64 - (intOf u5).toNat)
  case atStart => exact ⟨0, by omega, rfl, ZOwn.nil _ _, Keeps.refl _ _⟩
  case round =>
    obtain ⟨k, hk, rfl, ho, hkw⟩ := hrel
    by_cases hlt : k < 64
    · by_cases h16 : k < 16
      · obtain ⟨K0, e0⟩ : ∃ a, 4 * k = a := ⟨_, rfl⟩
        obtain ⟨K1, e1⟩ : ∃ a, 4 * k + 1 = a := ⟨_, rfl⟩
        obtain ⟨K2, e2⟩ : ∃ a, 4 * k + 2 = a := ⟨_, rfl⟩
        obtain ⟨K3, e3⟩ : ∃ a, 4 * k + 3 = a := ⟨_, rfl⟩
        have hn := zw_low l k h16 HL.out
        rw [e1, e2, e3, e0] at hn
        have c0 := hkw.cell (hcell' K0 (by omega)) (fun h => h)
        have c1 := hkw.cell (hcell' K1 (by omega)) (fun h => h)
        have c2 := hkw.cell (hcell' K2 (by omega)) (fun h => h)
        have c3 := hkw.cell (hcell' K3 (by omega)) (fun h => h)
        have k0 : (4 : Int) * k = (K0 : Int) := by omega
        have k1 : (K0 : Int) + 1 = (K1 : Int) := by omega
        have k2 : (K0 : Int) + 2 = (K2 : Int) := by omega
        have k3 : (K0 : Int) + 3 = (K3 : Int) := by omega
        have l0 : (K0 : Int) < 64 := by omega
        have l1 : (K1 : Int) < 64 := by omega
        have l2 : (K2 : Int) < 64 := by omega
        have l3 : (K3 : Int) < 64 := by omega
        obtain ⟨X, hX⟩ : ∃ X, wnext l (wlist l k) = X := ⟨_, rfl⟩
        obtain ⟨A0, hA0⟩ : ∃ A, l.getD K0 0 = A := ⟨_, rfl⟩
        obtain ⟨A1, hA1⟩ : ∃ A, l.getD K1 0 = A := ⟨_, rfl⟩
        obtain ⟨A2, hA2⟩ : ∃ A, l.getD K2 0 = A := ⟨_, rfl⟩
        obtain ⟨A3, hA3⟩ : ∃ A, l.getD K3 0 = A := ⟨_, rfl⟩
        rw [hX, hA0, hA1, hA2, hA3] at hn
        rw [hA0] at c0
        rw [hA1] at c1
        rw [hA2] at c2
        rw [hA3] at c3
        have b0 : (A0.toNat : Int) ≤ 255 := by have := A0.toNat_lt; omega
        have b1 : (A1.toNat : Int) ≤ 255 := by have := A1.toNat_lt; omega
        have b2 : (A2.toNat : Int) ≤ 255 := by have := A2.toNat_lt; omega
        have b3 : (A3.toNat : Int) ≤ 255 := by have := A3.toNat_lt; omega
        clear hA0 hA1 hA2 hA3 hcell' e0 e1 e2 e3
        have p0 := i64_fit (K0 : Int) (by omega) (by omega)
        have p1 := i64_fit (K1 : Int) (by omega) (by omega)
        have p2 := i64_fit (K2 : Int) (by omega) (by omega)
        have p3 := i64_fit (K3 : Int) (by omega) (by omega)
        have a0 := i64_fit (A0.toNat : Int) (by omega) (by omega)
        have a1 := i64_fit (A1.toNat : Int) (by omega) (by omega)
        have a2 := i64_fit (A2.toNat : Int) (by omega) (by omega)
        have a3 := i64_fit (A3.toNat : Int) (by omega) (by omega)
        have m0 := i64_fit (16777216 * (A0.toNat : Int)) (by omega) (by omega)
        have m1 := i64_fit (65536 * (A1.toNat : Int)) (by omega) (by omega)
        have m2 := i64_fit (256 * (A2.toNat : Int)) (by omega) (by omega)
        have s1 := i64_fit (16777216 * (A0.toNat : Int) + 65536 * (A1.toNat : Int)) (by omega) (by omega)
        have s2 := i64_fit (16777216 * (A0.toNat : Int) + 65536 * (A1.toNat : Int) + 256 * (A2.toNat : Int)) (by omega) (by omega)
        have s3 := i64_fit (16777216 * (A0.toNat : Int) + 65536 * (A1.toNat : Int) + 256 * (A2.toNat : Int) + (A3.toNat : Int)) (by omega) (by omega)
        have HX := Lib.hid hX
        have HN := Lib.hid hn
        clear hX hn
        go_wp2
        refine region_T [34] (fun w' => w'.cell? ⟨b, off + K0, none⟩ = some (.int .u8 (A0.toNat : Int)) ∧ w'.cell? ⟨b, off + K1, none⟩ = some (.int .u8 (A1.toNat : Int)) ∧ w'.cell? ⟨b, off + K2, none⟩ = some (.int .u8 (A2.toNat : Int)) ∧ w'.cell? ⟨b, off + K3, none⟩ = some (.int .u8 (A3.toNat : Int))) (by kernel_rfl) ?_
        have hC : (fun w' : World => w'.cell? ⟨b, off + K0, none⟩ = some (.int .u8 (A0.toNat : Int)) ∧ w'.cell? ⟨b, off + K1, none⟩ = some (.int .u8 (A1.toNat : Int)) ∧ w'.cell? ⟨b, off + K2, none⟩ = some (.int .u8 (A2.toNat : Int)) ∧ w'.cell? ⟨b, off + K3, none⟩ = some (.int .u8 (A3.toNat : Int))) wr.drew := ⟨c0, c1, c2, c3⟩
        refine anyT_take0 (i := 0) (v := ?_) rfl (by kernel_rfl) (by kernel_rfl) (by kernel_rfl) (by kernel_rfl) (by kernel_rfl) (fun _ _ _ h => h) hC (.inl ⟨by rfl, fun _ _ => ?_⟩) ?_
        rotate_left 1
        · go_simp
          try with_reducible rfl
        simp only [Act.put, List.getElem_toArray, List.getElem_cons_succ, List.getElem_cons_zero, List.setIfInBounds_toArray, List.set_cons_zero, List.set_cons_succ]
        refine anyT_take0 (i := 1) (v := ?_) rfl (by kernel_rfl) (by kernel_rfl) (by kernel_rfl) (by kernel_rfl) (by kernel_rfl) (fun _ _ _ h => h) hC (.inl ⟨by rfl, fun _ _ => ?_⟩) ?_
        rotate_left 1
        · go_simp
          try with_reducible rfl
        simp only [Act.put, List.getElem_toArray, List.getElem_cons_succ, List.getElem_cons_zero, List.setIfInBounds_toArray, List.set_cons_zero, List.set_cons_succ]
        refine anyT_take0 (i := 2) (v := ?_) rfl (by kernel_rfl) (by kernel_rfl) (by kernel_rfl) (by kernel_rfl) (by kernel_rfl) (fun _ _ _ h => h) hC (.inl ⟨by rfl, fun _ _ => ?_⟩) ?_
        rotate_left 1
        · go_simp
          try with_reducible rfl
        simp only [Act.put, List.getElem_toArray, List.getElem_cons_succ, List.getElem_cons_zero, List.setIfInBounds_toArray, List.set_cons_zero, List.set_cons_succ]
        refine anyT_take0 (i := 3) (v := ?_) rfl (by kernel_rfl) (by kernel_rfl) (by kernel_rfl) (by kernel_rfl) (by kernel_rfl) (fun _ _ _ h => h) hC (.inl ⟨by rfl, fun _ _ => ?_⟩) ?_
        rotate_left 1
        · go_simp
          try with_reducible rfl
        simp only [Act.put, List.getElem_toArray, List.getElem_cons_succ, List.getElem_cons_zero, List.setIfInBounds_toArray, List.set_cons_zero, List.set_cons_succ]
        refine anyT_take0 (i := 4) (v := ?_) rfl (by kernel_rfl) (by kernel_rfl) (by kernel_rfl) (by kernel_rfl) (by kernel_rfl) (fun _ _ _ h => h) hC (.inl ⟨by rfl, fun _ _ => ?_⟩) ?_
        rotate_left 1
        · go_simp
          try with_reducible rfl
        simp only [Act.put, List.getElem_toArray, List.getElem_cons_succ, List.getElem_cons_zero, List.setIfInBounds_toArray, List.set_cons_zero, List.set_cons_succ]
        refine anyT_takeW (i := 5) (v := ?_) rfl (by kernel_rfl) (by kernel_rfl) (by kernel_rfl) (by kernel_rfl) (by kernel_rfl) (by kernel_rfl) (fun _ _ _ h => h) hC (.inl ⟨by rfl, fun w hCw => ?_⟩) ?_
        rotate_left 1
        · dsimp only at hCw
          go_simp
          try with_reducible rfl
        simp only [Act.put, List.getElem_toArray, List.getElem_cons_succ, List.getElem_cons_zero, List.setIfInBounds_toArray, List.set_cons_zero, List.set_cons_succ]
        refine anyT_take0 (i := 6) (v := ?_) rfl (by kernel_rfl) (by kernel_rfl) (by kernel_rfl) (by kernel_rfl) (by kernel_rfl) (fun _ _ _ h => h) hC (.inl ⟨by rfl, fun _ _ => ?_⟩) ?_
        rotate_left 1
        · go_simp
          try with_reducible rfl
        simp only [Act.put, List.getElem_toArray, List.getElem_cons_succ, List.getElem_cons_zero, List.setIfInBounds_toArray, List.set_cons_zero, List.set_cons_succ]
        refine anyT_take0 (i := 7) (v := ?_) rfl (by kernel_rfl) (by kernel_rfl) (by kernel_rfl) (by kernel_rfl) (by kernel_rfl) (fun _ _ _ h => h) hC (.inl ⟨by rfl, fun _ _ => ?_⟩) ?_
        rotate_left 1
        · go_simp
          try with_reducible rfl
        simp only [Act.put, List.getElem_toArray, List.getElem_cons_succ, List.getElem_cons_zero, List.setIfInBounds_toArray, List.set_cons_zero, List.set_cons_succ]
        refine anyT_take0 (i := 8) (v := ?_) rfl (by kernel_rfl) (by kernel_rfl) (by kernel_rfl) (by kernel_rfl) (by kernel_rfl) (fun _ _ _ h => h) hC (.inl ⟨by rfl, fun _ _ => ?_⟩) ?_
        rotate_left 1
        · go_simp
          try with_reducible rfl
        simp only [Act.put, List.getElem_toArray, List.getElem_cons_succ, List.getElem_cons_zero, List.setIfInBounds_toArray, List.set_cons_zero, List.set_cons_succ]
        refine anyT_take0 (i := 9) (v := ?_) rfl (by kernel_rfl) (by kernel_rfl) (by kernel_rfl) (by kernel_rfl) (by kernel_rfl) (fun _ _ _ h => h) hC (.inl ⟨by rfl, fun _ _ => ?_⟩) ?_
        rotate_left 1
        · go_simp
          try with_reducible rfl
        simp only [Act.put, List.getElem_toArray, List.getElem_cons_succ, List.getElem_cons_zero, List.setIfInBounds_toArray, List.set_cons_zero, List.set_cons_succ]
        refine anyT_take0 (i := 10) (v := ?_) rfl (by kernel_rfl) (by kernel_rfl) (by kernel_rfl) (by kernel_rfl) (by kernel_rfl) (fun _ _ _ h => h) hC (.inl ⟨by rfl, fun _ _ => ?_⟩) ?_
        rotate_left 1
        · go_simp
          try with_reducible rfl
        simp only [Act.put, List.getElem_toArray, List.getElem_cons_succ, List.getElem_cons_zero, List.setIfInBounds_toArray, List.set_cons_zero, List.set_cons_succ]
        refine anyT_take0 (i := 11) (v := ?_) rfl (by kernel_rfl) (by kernel_rfl) (by kernel_rfl) (by kernel_rfl) (by kernel_rfl) (fun _ _ _ h => h) hC (.inl ⟨by rfl, fun _ _ => ?_⟩) ?_
        rotate_left 1
        · go_simp
          try with_reducible rfl
        simp only [Act.put, List.getElem_toArray, List.getElem_cons_succ, List.getElem_cons_zero, List.setIfInBounds_toArray, List.set_cons_zero, List.set_cons_succ]
        refine anyT_take0 (i := 12) (v := ?_) rfl (by kernel_rfl) (by kernel_rfl) (by kernel_rfl) (by kernel_rfl) (by kernel_rfl) (fun _ _ _ h => h) hC (.inl ⟨by rfl, fun _ _ => ?_⟩) ?_
        rotate_left 1
        · go_simp
          try with_reducible rfl
        simp only [Act.put, List.getElem_toArray, List.getElem_cons_succ, List.getElem_cons_zero, List.setIfInBounds_toArray, List.set_cons_zero, List.set_cons_succ]
        refine anyT_takeW (i := 13) (v := ?_) rfl (by kernel_rfl) (by kernel_rfl) (by kernel_rfl) (by kernel_rfl) (by kernel_rfl) (by kernel_rfl) (fun _ _ _ h => h) hC (.inl ⟨by rfl, fun w hCw => ?_⟩) ?_
        rotate_left 1
        · dsimp only at hCw
          go_simp
          try with_reducible rfl
        simp only [Act.put, List.getElem_toArray, List.getElem_cons_succ, List.getElem_cons_zero, List.setIfInBounds_toArray, List.set_cons_zero, List.set_cons_succ]
        refine anyT_take0 (i := 14) (v := ?_) rfl (by kernel_rfl) (by kernel_rfl) (by kernel_rfl) (by kernel_rfl) (by kernel_rfl) (fun _ _ _ h => h) hC (.inl ⟨by rfl, fun _ _ => ?_⟩) ?_
        rotate_left 1
        · go_simp
          try with_reducible rfl
        simp only [Act.put, List.getElem_toArray, List.getElem_cons_succ, List.getElem_cons_zero, List.setIfInBounds_toArray, List.set_cons_zero, List.set_cons_succ]
        refine anyT_take0 (i := 15) (v := ?_) rfl (by kernel_rfl) (by kernel_rfl) (by kernel_rfl) (by kernel_rfl) (by kernel_rfl) (fun _ _ _ h => h) hC (.inl ⟨by rfl, fun _ _ => ?_⟩) ?_
        rotate_left 1
        · go_simp
          try with_reducible rfl
        simp only [Act.put, List.getElem_toArray, List.getElem_cons_succ, List.getElem_cons_zero, List.setIfInBounds_toArray, List.set_cons_zero, List.set_cons_succ]
        refine anyT_take0 (i := 16) (v := ?_) rfl (by kernel_rfl) (by kernel_rfl) (by kernel_rfl) (by kernel_rfl) (by kernel_rfl) (fun _ _ _ h => h) hC (.inl ⟨by rfl, fun _ _ => ?_⟩) ?_
        rotate_left 1
        · go_simp
          try with_reducible rfl
        simp only [Act.put, List.getElem_toArray, List.getElem_cons_succ, List.getElem_cons_zero, List.setIfInBounds_toArray, List.set_cons_zero, List.set_cons_succ]
        refine anyT_take0 (i := 17) (v := ?_) rfl (by kernel_rfl) (by kernel_rfl) (by kernel_rfl) (by kernel_rfl) (by kernel_rfl) (fun _ _ _ h => h) hC (.inl ⟨by rfl, fun _ _ => ?_⟩) ?_
        rotate_left 1
        · go_simp
          try with_reducible rfl
        simp only [Act.put, List.getElem_toArray, List.getElem_cons_succ, List.getElem_cons_zero, List.setIfInBounds_toArray, List.set_cons_zero, List.set_cons_succ]
        refine anyT_take0 (i := 18) (v := ?_) rfl (by kernel_rfl) (by kernel_rfl) (by kernel_rfl) (by kernel_rfl) (by kernel_rfl) (fun _ _ _ h => h) hC (.inl ⟨by rfl, fun _ _ => ?_⟩) ?_
        rotate_left 1
        · go_simp
          try with_reducible rfl
        simp only [Act.put, List.getElem_toArray, List.getElem_cons_succ, List.getElem_cons_zero, List.setIfInBounds_toArray, List.set_cons_zero, List.set_cons_succ]
        refine anyT_take0 (i := 19) (v := ?_) rfl (by kernel_rfl) (by kernel_rfl) (by kernel_rfl) (by kernel_rfl) (by kernel_rfl) (fun _ _ _ h => h) hC (.inl ⟨by rfl, fun _ _ => ?_⟩) ?_
        rotate_left 1
        · go_simp
          try with_reducible rfl
        simp only [Act.put, List.getElem_toArray, List.getElem_cons_succ, List.getElem_cons_zero, List.setIfInBounds_toArray, List.set_cons_zero, List.set_cons_succ]
        refine anyT_take0 (i := 20) (v := ?_) rfl (by kernel_rfl) (by kernel_rfl) (by kernel_rfl) (by kernel_rfl) (by kernel_rfl) (fun _ _ _ h => h) hC (.inl ⟨by rfl, fun _ _ => ?_⟩) ?_
        rotate_left 1
        · go_simp
          try with_reducible rfl
        simp only [Act.put, List.getElem_toArray, List.getElem_cons_succ, List.getElem_cons_zero, List.setIfInBounds_toArray, List.set_cons_zero, List.set_cons_succ]
        refine anyT_take0 (i := 21) (v := ?_) rfl (by kernel_rfl) (by kernel_rfl) (by kernel_rfl) (by kernel_rfl) (by kernel_rfl) (fun _ _ _ h => h) hC (.inl ⟨by rfl, fun _ _ => ?_⟩) ?_
        rotate_left 1
        · go_simp
          try with_reducible rfl
        simp only [Act.put, List.getElem_toArray, List.getElem_cons_succ, List.getElem_cons_zero, List.setIfInBounds_toArray, List.set_cons_zero, List.set_cons_succ]
        refine anyT_takeW (i := 22) (v := ?_) rfl (by kernel_rfl) (by kernel_rfl) (by kernel_rfl) (by kernel_rfl) (by kernel_rfl) (by kernel_rfl) (fun _ _ _ h => h) hC (.inl ⟨by rfl, fun w hCw => ?_⟩) ?_
        rotate_left 1
        · dsimp only at hCw
          go_simp
          try with_reducible rfl
        simp only [Act.put, List.getElem_toArray, List.getElem_cons_succ, List.getElem_cons_zero, List.setIfInBounds_toArray, List.set_cons_zero, List.set_cons_succ]
        refine anyT_take0 (i := 23) (v := ?_) rfl (by kernel_rfl) (by kernel_rfl) (by kernel_rfl) (by kernel_rfl) (by kernel_rfl) (fun _ _ _ h => h) hC (.inl ⟨by rfl, fun _ _ => ?_⟩) ?_
        rotate_left 1
        · go_simp
          try with_reducible rfl
        simp only [Act.put, List.getElem_toArray, List.getElem_cons_succ, List.getElem_cons_zero, List.setIfInBounds_toArray, List.set_cons_zero, List.set_cons_succ]
        refine anyT_take0 (i := 24) (v := ?_) rfl (by kernel_rfl) (by kernel_rfl) (by kernel_rfl) (by kernel_rfl) (by kernel_rfl) (fun _ _ _ h => h) hC (.inl ⟨by rfl, fun _ _ => ?_⟩) ?_
        rotate_left 1
        · go_simp
          try with_reducible rfl
        simp only [Act.put, List.getElem_toArray, List.getElem_cons_succ, List.getElem_cons_zero, List.setIfInBounds_toArray, List.set_cons_zero, List.set_cons_succ]
        refine anyT_take0 (i := 25) (v := ?_) rfl (by kernel_rfl) (by kernel_rfl) (by kernel_rfl) (by kernel_rfl) (by kernel_rfl) (fun _ _ _ h => h) hC (.inl ⟨by rfl, fun _ _ => ?_⟩) ?_
        rotate_left 1
        · go_simp
          try with_reducible rfl
        simp only [Act.put, List.getElem_toArray, List.getElem_cons_succ, List.getElem_cons_zero, List.setIfInBounds_toArray, List.set_cons_zero, List.set_cons_succ]
        refine anyT_take0 (i := 26) (v := ?_) rfl (by kernel_rfl) (by kernel_rfl) (by kernel_rfl) (by kernel_rfl) (by kernel_rfl) (fun _ _ _ h => h) hC (.inl ⟨by rfl, fun _ _ => ?_⟩) ?_
        rotate_left 1
        · go_simp
          try with_reducible rfl
        simp only [Act.put, List.getElem_toArray, List.getElem_cons_succ, List.getElem_cons_zero, List.setIfInBounds_toArray, List.set_cons_zero, List.set_cons_succ]
        refine anyT_take0 (i := 27) (v := ?_) rfl (by kernel_rfl) (by kernel_rfl) (by kernel_rfl) (by kernel_rfl) (by kernel_rfl) (fun _ _ _ h => h) hC (.inl ⟨by rfl, fun _ _ => ?_⟩) ?_
        rotate_left 1
        · go_simp
          try with_reducible rfl
        simp only [Act.put, List.getElem_toArray, List.getElem_cons_succ, List.getElem_cons_zero, List.setIfInBounds_toArray, List.set_cons_zero, List.set_cons_succ]
        refine anyT_take0 (i := 28) (v := ?_) rfl (by kernel_rfl) (by kernel_rfl) (by kernel_rfl) (by kernel_rfl) (by kernel_rfl) (fun _ _ _ h => h) hC (.inl ⟨by rfl, fun _ _ => ?_⟩) ?_
        rotate_left 1
        · go_simp
          try with_reducible rfl
        simp only [Act.put, List.getElem_toArray, List.getElem_cons_succ, List.getElem_cons_zero, List.setIfInBounds_toArray, List.set_cons_zero, List.set_cons_succ]
        refine anyT_take0 (i := 29) (v := ?_) rfl (by kernel_rfl) (by kernel_rfl) (by kernel_rfl) (by kernel_rfl) (by kernel_rfl) (fun _ _ _ h => h) hC (.inl ⟨by rfl, fun _ _ => ?_⟩) ?_
        rotate_left 1
        · go_simp
          try with_reducible rfl
        simp only [Act.put, List.getElem_toArray, List.getElem_cons_succ, List.getElem_cons_zero, List.setIfInBounds_toArray, List.set_cons_zero, List.set_cons_succ]
        refine anyT_take0 (i := 30) (v := ?_) rfl (by kernel_rfl) (by kernel_rfl) (by kernel_rfl) (by kernel_rfl) (by kernel_rfl) (fun _ _ _ h => h) hC (.inl ⟨by rfl, fun _ _ => ?_⟩) ?_
        rotate_left 1
        · go_simp
          try with_reducible rfl
        simp only [Act.put, List.getElem_toArray, List.getElem_cons_succ, List.getElem_cons_zero, List.setIfInBounds_toArray, List.set_cons_zero, List.set_cons_succ]
        refine anyT_takeW (i := 31) (v := ?_) rfl (by kernel_rfl) (by kernel_rfl) (by kernel_rfl) (by kernel_rfl) (by kernel_rfl) (by kernel_rfl) (fun _ _ _ h => h) hC (.inl ⟨by rfl, fun w hCw => ?_⟩) ?_
        rotate_left 1
        · dsimp only at hCw
          go_simp
          try with_reducible rfl
        simp only [Act.put, List.getElem_toArray, List.getElem_cons_succ, List.getElem_cons_zero, List.setIfInBounds_toArray, List.set_cons_zero, List.set_cons_succ]
        refine anyT_take0 (i := 32) (v := ?_) rfl (by kernel_rfl) (by kernel_rfl) (by kernel_rfl) (by kernel_rfl) (by kernel_rfl) (fun _ _ _ h => h) hC (.inl ⟨by rfl, fun _ _ => ?_⟩) ?_
        rotate_left 1
        · go_simp
          try with_reducible rfl
        simp only [Act.put, List.getElem_toArray, List.getElem_cons_succ, List.getElem_cons_zero, List.setIfInBounds_toArray, List.set_cons_zero, List.set_cons_succ]
        refine anyT_take0 (i := 33) (v := ?_) rfl (by kernel_rfl) (by kernel_rfl) (by kernel_rfl) (by kernel_rfl) (by kernel_rfl) (fun _ _ _ h => h) hC (.inl ⟨by rfl, fun _ _ => ?_⟩) ?_
        rotate_left 1
        · go_simp
          try with_reducible rfl
        simp only [Act.put, List.getElem_toArray, List.getElem_cons_succ, List.getElem_cons_zero, List.setIfInBounds_toArray, List.set_cons_zero, List.set_cons_succ]
        refine anyT_tail (k := 34) (by rfl) (by kernel_rfl) (by simp) rfl rfl (by kernel_rfl) ?_
        have hz : (16777216 * (A0.toNat : Int) + 65536 * (A1.toNat : Int) + 256 * (A2.toNat : Int) + (A3.toNat : Int)) = (X.toNat : Int) := by have := HN.out; omega
        have HZ := Lib.hid hz
        clear hz
        obtain ⟨xv, w6, hrun, ho2, hk6, -⟩ := run_append_ints (ty := 76) ((ho.keeps ((Keeps.refl (fun _ => False) wr).drew) (fun _ _ h => h)).keeps ((Keeps.refl (fun _ => False) wr.drew).alloc (.cells #[.int .i64 (16777216 * (A0.toNat : Int) + 65536 * (A1.toNat : Int) + 256 * (A2.toNat : Int) + (A3.toNat : Int))] 3)) (fun _ _ h => h)) (ZAt.lit wr.drew _ [(16777216 * (A0.toNat : Int) + 65536 * (A1.toNat : Int) + 256 * (A2.toNat : Int) + (A3.toNat : Int))] 1 3 rfl rfl (by omega)) (by rw [zs_length, wlist_length]; simp; omega) (((hkw.drew).alloc _).size)
        have HR := Lib.hid hrun
        have hu4 : ∀ b, u4.ownBlock = some b → w.heap.size ≤ b := fun b hb => (ho.block b hb).1
        clear hrun p0 p1 p2 p3 a0 a1 a2 a3 m0 m1 m2 s1 s2 s3 hC c0 c1 c2 c3 ho
        go_wp2_with (at_builtin; refine Lib.wpList_append_run _ rfl _ _ _ _ rfl _ _ rfl rfl _ _ HR.out ?_)
        go_roundw
        case rel =>
          rw [zs_one X _ HZ.out, ← zs_append, ← HX.out] at ho2
          exact ⟨k + 1, by omega, by go_num, ho2, ((hkw.drew).alloc _).from hk6 hu4⟩
        case measure => simp [intOf]; omega
      · obtain ⟨a16, e16⟩ : ∃ a, a + 16 = k := ⟨k - 16, by omega⟩
        obtain ⟨a15, e15⟩ : ∃ a, a + 15 = k := ⟨k - 15, by omega⟩
        obtain ⟨a7, e7⟩ : ∃ a, a + 7 = k := ⟨k - 7, by omega⟩
        obtain ⟨a2, e2⟩ : ∃ a, a + 2 = k := ⟨k - 2, by omega⟩
        have h16' : (16 : Int) ≤ (k : Int) := by omega
        have hlen : (zs (wlist l k)).length = k := by rw [zs_length, wlist_length]
        obtain ⟨g, o4, c4, rfl, hc4, hm4, hg4⟩ := ho.place (by omega)
        have hn := zw_high l k a16 a15 a7 a2 e16 e15 e7 e2
        have d16 := (ho.at a16 (by omega)).1
        have d15 := (ho.at a15 (by omega)).1
        have d7 := (ho.at a7 (by omega)).1
        have d2 := (ho.at a2 (by omega)).1
        rw [zs_get] at d16 d15 d7 d2
        obtain ⟨X16, hX16⟩ : ∃ A, (wlist l k).getD a16 0 = A := ⟨_, rfl⟩
        obtain ⟨X15, hX15⟩ : ∃ A, (wlist l k).getD a15 0 = A := ⟨_, rfl⟩
        obtain ⟨X7, hX7⟩ : ∃ A, (wlist l k).getD a7 0 = A := ⟨_, rfl⟩
        obtain ⟨X2, hX2⟩ : ∃ A, (wlist l k).getD a2 0 = A := ⟨_, rfl⟩
        rw [hX16, hX15, hX7, hX2] at hn
        rw [hX16] at d16
        rw [hX15] at d15
        rw [hX7] at d7
        rw [hX2] at d2
        have f16 : (k : Int) - 16 = (a16 : Int) := by omega
        have f15 : (k : Int) - 15 = (a15 : Int) := by omega
        have f7 : (k : Int) - 7 = (a7 : Int) := by omega
        have f2 : (k : Int) - 2 = (a2 : Int) := by omega
        have l16 : (a16 : Int) < (k : Int) := by omega
        have l15 : (a15 : Int) < (k : Int) := by omega
        have l7 : (a7 : Int) < (k : Int) := by omega
        have l2 : (a2 : Int) < (k : Int) := by omega
        rw [hlen] at hc4 ⊢
        simp only [maxLen] at hm4
        have HN := Lib.hid hn
        have HO := Lib.hid ho
        clear hn hX16 hX15 hX7 hX2 e16 e15 e7 e2 hlen ho hcell'
        have q1 := m_shr X15 3 8 (by decide)
        have q2 := m_shr X2 10 1024 (by decide)
        have x1 := i_xor (rotr X15 7) (rotr X15 18)
        have x2 := i_xor (rotr X15 7 ^^^ rotr X15 18) (shrN X15 3)
        have x3 := i_xor (rotr X2 17) (rotr X2 19)
        have x4 := i_xor (rotr X2 17 ^^^ rotr X2 19) (shrN X2 10)
        have tn1 := fun w => turn_k X15 7 w (by omega) (by omega)
        have tn2 := fun w => turn_k X15 18 w (by omega) (by omega)
        have tn3 := fun w => turn_k X2 17 w (by omega) (by omega)
        have tn4 := fun w => turn_k X2 19 w (by omega) (by omega)
        have hn := HN.out
        generalize rotr X15 7 = r7 at *
        generalize rotr X15 18 = r18 at *
        generalize shrN X15 3 = s3 at *
        generalize rotr X2 17 = r17 at *
        generalize rotr X2 19 = r19 at *
        generalize shrN X2 10 = s10 at *
        generalize r7 ^^^ r18 = m7 at *
        generalize r17 ^^^ r19 = m17 at *
        generalize m7 ^^^ s3 = S0 at *
        generalize m17 ^^^ s10 = S1 at *
        have v1 := wrap64_u32 s3
        have v2 := wrap64_u32 s10
        have hn2 : ((X16.toNat : Int) + (S0.toNat : Int) + (X7.toNat : Int) + (S1.toNat : Int)) % 4294967296 = ((wnext l (wlist l k)).toNat : Int) := by
          rw [hn]
          simp only [UInt32.toNat_add]
          omega
        have HN2 := Lib.hid hn2
        clear hn hn2 HN
        go_wp2_with fail
        refine (tn1 _).mono ?_
        rintro e w1 ⟨rfl, hk1⟩
        go_wp2_with fail
        refine (tn2 _).mono ?_
        rintro e w2 ⟨rfl, hk2⟩
        have hk3 := hk1.trans hk2 (fun _ _ h => h)
        have d2' := hk3.cell d2 (fun h => h)
        clear hk1 hk2 d15 d2
        go_wp2_with fail
        refine (tn3 _).mono ?_
        rintro e w4 ⟨rfl, hk4⟩
        go_wp2_with fail
        refine (tn4 _).mono ?_
        rintro e w5 ⟨rfl, hk5⟩
        have hk6 := (hk3.trans hk4 (fun _ _ h => h)).trans hk5 (fun _ _ h => h)
        have hkw5 := hkw.trans hk6 (fun _ _ h => h)
        have ho5 := HO.out.keeps hk6 (fun _ _ h => h)
        have e16 := hk6.cell d16 (fun h => h)
        have e7 := hk6.cell d7 (fun h => h)
        clear hk4 hk5 hk3 hk6 d2' d16 d7 hkw
        go_wp2_with fail
        clear x1 x2 x3 x4 q1 q2 v1 v2 tn1 tn2 tn3 tn4
        have b16 := u32_lt X16
        have b7 := u32_lt X7
        have bs0 := u32_lt S0
        have bs1 := u32_lt S1
        have s1 := i64_fit ((X16.toNat : Int) + (S0.toNat : Int)) (by omega) (by omega)
        have s2 := i64_fit ((X16.toNat : Int) + (S0.toNat : Int) + (X7.toNat : Int)) (by omega) (by omega)
        have s3 := i64_fit ((X16.toNat : Int) + (S0.toNat : Int) + (X7.toNat : Int) + (S1.toNat : Int)) (by omega) (by omega)
        have s4 := i64_fit ((k : Int) - 16) (by omega) (by omega)
        have s5 := i64_fit ((k : Int) - 7) (by omega) (by omega)
        have s6 := i64_fit (a16 : Int) (by omega) (by omega)
        have s7 := i64_fit (a7 : Int) (by omega) (by omega)
        obtain ⟨Z, hZ⟩ : ∃ Z, wnext l (wlist l k) = Z := ⟨_, rfl⟩
        have hz := HN2.out
        rw [hZ] at hz
        rw [← Int.tmod_eq_emod_of_nonneg (by omega)] at hz
        have bz := u32_lt Z
        have s8 := i64_fit (Z.toNat : Int) (by omega) (by omega)
        have HZ := Lib.hid hZ
        clear b16 b7 bs0 bs1 hZ HN2 bz
        refine region_T [17] (fun w' => w'.cell? ⟨g, o4 + a16, none⟩ = some (.int .i64 (X16.toNat : Int)) ∧ w'.cell? ⟨g, o4 + a7, none⟩ = some (.int .i64 (X7.toNat : Int))) (by kernel_rfl) ?_
        have hC : (fun w' : World => w'.cell? ⟨g, o4 + a16, none⟩ = some (.int .i64 (X16.toNat : Int)) ∧ w'.cell? ⟨g, o4 + a7, none⟩ = some (.int .i64 (X7.toNat : Int))) w5.drew := ⟨e16, e7⟩
        refine anyT_take0 (i := 0) (v := ?_) rfl (by kernel_rfl) (by kernel_rfl) (by kernel_rfl) (by kernel_rfl) (by kernel_rfl) (fun _ _ _ h => h) hC (.inl ⟨by rfl, fun _ _ => ?_⟩) ?_
        rotate_left 1
        · go_simp
          try with_reducible rfl
        simp only [Act.put, List.getElem_toArray, List.getElem_cons_succ, List.getElem_cons_zero, List.setIfInBounds_toArray, List.set_cons_zero, List.set_cons_succ]
        refine anyT_take0 (i := 1) (v := ?_) rfl (by kernel_rfl) (by kernel_rfl) (by kernel_rfl) (by kernel_rfl) (by kernel_rfl) (fun _ _ _ h => h) hC (.inl ⟨by rfl, fun _ _ => ?_⟩) ?_
        rotate_left 1
        · go_simp
          try with_reducible rfl
        simp only [Act.put, List.getElem_toArray, List.getElem_cons_succ, List.getElem_cons_zero, List.setIfInBounds_toArray, List.set_cons_zero, List.set_cons_succ]
        refine anyT_take0 (i := 2) (v := ?_) rfl (by kernel_rfl) (by kernel_rfl) (by kernel_rfl) (by kernel_rfl) (by kernel_rfl) (fun _ _ _ h => h) hC (.inl ⟨by rfl, fun _ _ => ?_⟩) ?_
        rotate_left 1
        · go_simp
          try with_reducible rfl
        simp only [Act.put, List.getElem_toArray, List.getElem_cons_succ, List.getElem_cons_zero, List.setIfInBounds_toArray, List.set_cons_zero, List.set_cons_succ]
        refine anyT_take0 (i := 3) (v := ?_) rfl (by kernel_rfl) (by kernel_rfl) (by kernel_rfl) (by kernel_rfl) (by kernel_rfl) (fun _ _ _ h => h) hC (.inl ⟨by rfl, fun _ _ => ?_⟩) ?_
        rotate_left 1
        · go_simp
          try with_reducible rfl
        simp only [Act.put, List.getElem_toArray, List.getElem_cons_succ, List.getElem_cons_zero, List.setIfInBounds_toArray, List.set_cons_zero, List.set_cons_succ]
        refine anyT_take0 (i := 4) (v := ?_) rfl (by kernel_rfl) (by kernel_rfl) (by kernel_rfl) (by kernel_rfl) (by kernel_rfl) (fun _ _ _ h => h) hC (.inl ⟨by rfl, fun _ _ => ?_⟩) ?_
        rotate_left 1
        · go_simp
          try with_reducible rfl
        simp only [Act.put, List.getElem_toArray, List.getElem_cons_succ, List.getElem_cons_zero, List.setIfInBounds_toArray, List.set_cons_zero, List.set_cons_succ]
        refine anyT_takeW (i := 5) (v := ?_) rfl (by kernel_rfl) (by kernel_rfl) (by kernel_rfl) (by kernel_rfl) (by kernel_rfl) (by kernel_rfl) (fun _ _ _ h => h) hC (.inl ⟨by rfl, fun w hCw => ?_⟩) ?_
        rotate_left 1
        · dsimp only at hCw
          go_simp
          try with_reducible rfl
        simp only [Act.put, List.getElem_toArray, List.getElem_cons_succ, List.getElem_cons_zero, List.setIfInBounds_toArray, List.set_cons_zero, List.set_cons_succ]
        refine anyT_take0 (i := 6) (v := ?_) rfl (by kernel_rfl) (by kernel_rfl) (by kernel_rfl) (by kernel_rfl) (by kernel_rfl) (fun _ _ _ h => h) hC (.inl ⟨by rfl, fun _ _ => ?_⟩) ?_
        rotate_left 1
        · go_simp
          try with_reducible rfl
        simp only [Act.put, List.getElem_toArray, List.getElem_cons_succ, List.getElem_cons_zero, List.setIfInBounds_toArray, List.set_cons_zero, List.set_cons_succ]
        refine anyT_take0 (i := 7) (v := ?_) rfl (by kernel_rfl) (by kernel_rfl) (by kernel_rfl) (by kernel_rfl) (by kernel_rfl) (fun _ _ _ h => h) hC (.inl ⟨by rfl, fun _ _ => ?_⟩) ?_
        rotate_left 1
        · go_simp
          try with_reducible rfl
        simp only [Act.put, List.getElem_toArray, List.getElem_cons_succ, List.getElem_cons_zero, List.setIfInBounds_toArray, List.set_cons_zero, List.set_cons_succ]
        refine anyT_take0 (i := 8) (v := ?_) rfl (by kernel_rfl) (by kernel_rfl) (by kernel_rfl) (by kernel_rfl) (by kernel_rfl) (fun _ _ _ h => h) hC (.inl ⟨by rfl, fun _ _ => ?_⟩) ?_
        rotate_left 1
        · go_simp
          try with_reducible rfl
        simp only [Act.put, List.getElem_toArray, List.getElem_cons_succ, List.getElem_cons_zero, List.setIfInBounds_toArray, List.set_cons_zero, List.set_cons_succ]
        refine anyT_take0 (i := 9) (v := ?_) rfl (by kernel_rfl) (by kernel_rfl) (by kernel_rfl) (by kernel_rfl) (by kernel_rfl) (fun _ _ _ h => h) hC (.inl ⟨by rfl, fun _ _ => ?_⟩) ?_
        rotate_left 1
        · go_simp
          try with_reducible rfl
        simp only [Act.put, List.getElem_toArray, List.getElem_cons_succ, List.getElem_cons_zero, List.setIfInBounds_toArray, List.set_cons_zero, List.set_cons_succ]
        refine anyT_take0 (i := 10) (v := ?_) rfl (by kernel_rfl) (by kernel_rfl) (by kernel_rfl) (by kernel_rfl) (by kernel_rfl) (fun _ _ _ h => h) hC (.inl ⟨by rfl, fun _ _ => ?_⟩) ?_
        rotate_left 1
        · go_simp
          try with_reducible rfl
        simp only [Act.put, List.getElem_toArray, List.getElem_cons_succ, List.getElem_cons_zero, List.setIfInBounds_toArray, List.set_cons_zero, List.set_cons_succ]
        refine anyT_take0 (i := 11) (v := ?_) rfl (by kernel_rfl) (by kernel_rfl) (by kernel_rfl) (by kernel_rfl) (by kernel_rfl) (fun _ _ _ h => h) hC (.inl ⟨by rfl, fun _ _ => ?_⟩) ?_
        rotate_left 1
        · go_simp
          try with_reducible rfl
        simp only [Act.put, List.getElem_toArray, List.getElem_cons_succ, List.getElem_cons_zero, List.setIfInBounds_toArray, List.set_cons_zero, List.set_cons_succ]
        refine anyT_takeW (i := 12) (v := ?_) rfl (by kernel_rfl) (by kernel_rfl) (by kernel_rfl) (by kernel_rfl) (by kernel_rfl) (by kernel_rfl) (fun _ _ _ h => h) hC (.inl ⟨by rfl, fun w hCw => ?_⟩) ?_
        rotate_left 1
        · dsimp only at hCw
          go_simp
          try with_reducible rfl
        simp only [Act.put, List.getElem_toArray, List.getElem_cons_succ, List.getElem_cons_zero, List.setIfInBounds_toArray, List.set_cons_zero, List.set_cons_succ]
        refine anyT_take0 (i := 13) (v := ?_) rfl (by kernel_rfl) (by kernel_rfl) (by kernel_rfl) (by kernel_rfl) (by kernel_rfl) (fun _ _ _ h => h) hC (.inl ⟨by rfl, fun _ _ => ?_⟩) ?_
        rotate_left 1
        · go_simp
          try with_reducible rfl
        simp only [Act.put, List.getElem_toArray, List.getElem_cons_succ, List.getElem_cons_zero, List.setIfInBounds_toArray, List.set_cons_zero, List.set_cons_succ]
        refine anyT_take0 (i := 14) (v := ?_) rfl (by kernel_rfl) (by kernel_rfl) (by kernel_rfl) (by kernel_rfl) (by kernel_rfl) (fun _ _ _ h => h) hC (.inl ⟨by rfl, fun _ _ => ?_⟩) ?_
        rotate_left 1
        · go_simp
          try with_reducible rfl
        simp only [Act.put, List.getElem_toArray, List.getElem_cons_succ, List.getElem_cons_zero, List.setIfInBounds_toArray, List.set_cons_zero, List.set_cons_succ]
        refine anyT_take0 (i := 15) (v := ?_) rfl (by kernel_rfl) (by kernel_rfl) (by kernel_rfl) (by kernel_rfl) (by kernel_rfl) (fun _ _ _ h => h) hC (.inl ⟨by rfl, fun _ _ => ?_⟩) ?_
        rotate_left 1
        · go_simp
          try with_reducible rfl
        simp only [Act.put, List.getElem_toArray, List.getElem_cons_succ, List.getElem_cons_zero, List.setIfInBounds_toArray, List.set_cons_zero, List.set_cons_succ]
        refine anyT_take0 (i := 16) (v := ?_) rfl (by kernel_rfl) (by kernel_rfl) (by kernel_rfl) (by kernel_rfl) (by kernel_rfl) (fun _ _ _ h => h) hC (.inl ⟨by rfl, fun _ _ => ?_⟩) ?_
        rotate_left 1
        · go_simp
          try with_reducible rfl
        simp only [Act.put, List.getElem_toArray, List.getElem_cons_succ, List.getElem_cons_zero, List.setIfInBounds_toArray, List.set_cons_zero, List.set_cons_succ]
        refine anyT_tail (k := 17) (by rfl) (by kernel_rfl) (by simp) rfl rfl (by kernel_rfl) ?_
        obtain ⟨xv, w6, hrun, ho2, hk6, -⟩ := run_append_ints (ty := 76) ((ho5.keeps ((Keeps.refl (fun _ => False) w5).drew) (fun _ _ h => h)).keeps ((Keeps.refl (fun _ => False) w5.drew).alloc (.cells #[.int .i64 (Z.toNat : Int)] 3)) (fun _ _ h => h)) (ZAt.lit w5.drew _ [(Z.toNat : Int)] 1 3 rfl rfl (by omega)) (by rw [zs_length, wlist_length]; simp; omega) (((hkw5.drew).alloc _).size)
        rw [show (zs (wlist l k)).length = k from by rw [zs_length, wlist_length]] at hrun hk6
        have HR := Lib.hid hrun
        clear hrun hz hC e16 e7 ho5 s1 s2 s3 s4 s5 s6 s7 s8
        go_wp2_with (at_builtin; refine Lib.wpList_append_run _ rfl _ _ _ _ rfl _ _ rfl rfl _ _ HR.out ?_)
        go_roundw
        case rel =>
          rw [zs_one Z _ rfl, ← zs_append, ← HZ.out] at ho2
          exact ⟨k + 1, by omega, by go_num, ho2, ((hkw5.drew).alloc _).from hk6 (fun b' hb' => by
            have e : g = b' := by simpa [Value.ownBlock] using hb'
            rw [← e]
            exact hg4)⟩
        case measure => simp [intOf]; omega
    · have hk64 : k = 64 := by omega
      have hk64' : (64 : Int) ≤ (k : Int) := by omega
      rw [hk64] at ho
      clear hk64
      go_wp2
      go_ret2
      exact ⟨_, rfl, ho, hkw⟩
end Go.Proofs.YtekaoknpjpbjgaaDoor

/-! redoubtref10.Round: a block into a state, in ints. -/
namespace Go.Proofs.YtekaoknpjpbjgaaDoor
set_option linter.unusedVariables false
set_option linter.unusedSimpArgs false
open Go.RowKit

def szs (s : S8) : List Int := zs (words8 s)
def kzs : List Int := zs kList
set_option maxRecDepth 100000 in
set_option maxHeartbeats 4000000 in
theorem consts_any (w : World) : Calls Tryd.prog 85 #[] w fun e w' => ∃ x, e = .returned x ∧ ZOwn w' w.heap.size x kzs ∧ Keeps (fun _ => False) w w' := by
  go_enter Tryd.func85, Tryd.ntmps85
  go_wp2
  go_ret
  exact ⟨_, rfl, ZOwn.lit w _ kzs 72 w.heap.size (by kernel_rfl) (by kernel_rfl) (by omega) (Nat.le_refl _), (Keeps.refl _ _).alloc _⟩
end Go.Proofs.YtekaoknpjpbjgaaDoor

/-! redoubtref10.Round: a block into a state, in ints. -/
namespace Go.Proofs.YtekaoknpjpbjgaaDoor
set_option linter.unusedVariables false
set_option linter.unusedSimpArgs false
open Go.RowKit

theorem ch_eq (e f g : UInt32) : (e &&& f) ||| (~~~e &&& g) = (e &&& f) ^^^ (~~~e &&& g) := by
  apply UInt32.eq_of_toBitVec_eq
  ext i hi
  simp
  cases e.toBitVec[i] <;> simp
theorem maj_eq (a b c : UInt32) : (a &&& (b ||| c)) ||| (b &&& c) = (a &&& b) ^^^ (a &&& c) ^^^ (b &&& c) := by
  apply UInt32.eq_of_toBitVec_eq
  ext i hi
  simp
  cases a.toBitVec[i] <;> cases b.toBitVec[i] <;> cases c.toBitVec[i] <;> rfl
theorem szs_length (s : S8) : (szs s).length = 8 := rfl

def mixL (s r : S8) (k : Nat) : List UInt32 := (List.range 8).map fun i => if i < k then (words8 r).getD i 0 + (words8 s).getD i 0 else (words8 r).getD i 0
theorem mixL_len (s r : S8) (k : Nat) : (mixL s r k).length = 8 := by simp [mixL]
theorem mixL_get (s r : S8) (k : Nat) (hk : k < 8) : (mixL s r k).getD k 0 = (words8 r).getD k 0 := by
  simp [mixL, hk]
theorem mixL_step (s r : S8) (k : Nat) (hk : k < 8) : (mixL s r k).set k ((words8 r).getD k 0 + (words8 s).getD k 0) = mixL s r (k + 1) := by
  apply List.ext_getElem?
  intro j
  by_cases hj : j < 8
  · by_cases hjk : k = j
    · subst hjk
      rw [List.getElem?_set_self (by rw [mixL_len]; exact hj)]
      simp [mixL, hj]
    · rw [List.getElem?_set_ne hjk]
      simp only [mixL, List.getElem?_map, List.getElem?_range hj, Option.map_some]
      by_cases h1 : j < k
      · rw [if_pos h1, if_pos (by omega)]
      · rw [if_neg h1, if_neg (by omega)]
  · rw [List.getElem?_eq_none (by rw [List.length_set, mixL_len]; omega), List.getElem?_eq_none (by rw [mixL_len]; omega)]
theorem mixL_none (s r : S8) : mixL s r 0 = words8 r := rfl
theorem mixL_full (s : S8) (l : List UInt8) : mixL s (rnds (wlist l 64) s 64) 8 = words8 (addS s l) := rfl
theorem zs_set (l : List UInt32) (k : Nat) (x : UInt32) (z : Int) (h : z = (x.toNat : Int)) : (zs l).set k z = zs (l.set k x) := by
  rw [h, zs, zs, List.map_set]

set_option maxRecDepth 100000 in
set_option maxHeartbeats 4000000 in
theorem rround_any (sv bv : Value) (s : S8) (l : List UInt8) (w : World) (hs : ZRd w sv (szs s)) (hb : BRd w bv l) (hl : l.length = 64) :
    Calls Tryd.prog 86 #[sv, bv] w fun e w' => ∃ x, e = .returned (.tuple #[x, .int .i64 0]) ∧ ZOwn w' w.heap.size x (szs (addS s l)) ∧ Keeps (fun _ => False) w w' := by
  obtain ⟨sb, so, sc, rfl, hsc, hsm, hsb, hscell⟩ := ZAt.get hs (by rw [szs_length]; omega)
  rw [szs_length] at hsc ⊢
  rw [szs_length] at hs
  have hst : ∀ w', ZRd w' (.slice (some ⟨sb, so, none⟩) 8 sc) (zs (words8 s)) → Calls Tryd.prog 92 #[.slice (some ⟨sb, so, none⟩) 8 sc] w' fun e w'' => e = .returned (.bool true) ∧ w' = w'' := fun w' h => state_any _ (words8 s) w' h rfl
  have hscell' : ∀ i, i < 8 → w.cell? ⟨sb, so + i, none⟩ = some (.int .i64 (((words8 s).getD i 0).toNat : Int)) := fun i hi => by
    rw [hscell i (by rw [szs_length]; exact hi)]
    exact congrArg (fun z => some (Value.int .i64 z)) (zs_get (words8 s) i hi)
  simp only [maxLen] at hsm
  clear hscell
  go_enter Tryd.func86, Tryd.ntmps86
  go_wp2_with fail
  refine (rwords_any _ l _ hb hl).mono ?_
  rintro e w1 ⟨wv, rfl, hw1, hk1⟩
  go_wp2_with fail
  refine (hst _ (hs.keeps hk1)).mono ?_
  rintro e w1' ⟨rfl, rfl⟩
  go_wp2_with fail
  refine (consts_any _).mono ?_
  rintro e w2 ⟨kv, rfl, hc2, hk2⟩
  have hkA := hk1.trans hk2 (fun _ _ h => h)
  obtain ⟨wg, wo, wc, rfl, hwc, hwm, hwg⟩ := hw1.place (by rw [zs_length, wlist_length]; omega)
  have hW2 := (hw1.keeps hk2 (fun _ _ h => h))
  obtain ⟨kg, ko, kc, rfl, hkc, hkm, hkg⟩ := hc2.place (by decide)
  rw [zs_length, wlist_length] at hwc hW2 ⊢
  have hk72 : kzs.length = 72 := by decide
  rw [hk72] at hkc hc2 ⊢
  simp only [maxLen] at hwm hkm
  have hwcell : ∀ i, i < 64 → w2.cell? ⟨wg, wo + i, none⟩ = some (.int .i64 (((wlist l 64).getD i 0).toNat : Int)) := fun i hi => by
    rw [(hW2.at i (by rw [zs_length, wlist_length]; exact hi)).1, zs_get]
  have hkcell : ∀ i, i < 64 → w2.cell? ⟨kg, ko + i, none⟩ = some (.int .i64 ((kAt i).toNat : Int)) := fun i hi => by
    rw [(hc2.at i (by rw [hk72]; omega)).1]
    exact congrArg (fun z => some (Value.int .i64 z)) (zs_get kList i (by rw [show (zs kList).length = 72 from hk72]; omega))
  have HS := Lib.hid hscell'
  clear hk72 hc2 hw1 hk1 hk2 hW2 hst hscell'
  obtain ⟨v3, w3, hrun, ho3, hk3, -⟩ := run_append_ints (ty := 76) (ZOwn.nil w2 w.heap.size) (hs.keeps hkA) (by rw [szs_length]; decide) hkA.size
  have HR := Lib.hid hrun
  clear hrun
  go_wp2_with (at_builtin; refine Lib.wpList_append_run _ rfl _ _ _ _ rfl _ _ rfl rfl _ _ HR.out ?_)
  have hk3' : Keeps (fun _ => False) w2 w3 := hk3.mono fun b _ h => by simp [Value.ownBlock] at h
  have hwcell' : ∀ i, i < 64 → w3.cell? ⟨wg, wo + i, none⟩ = some (.int .i64 (((wlist l 64).getD i 0).toNat : Int)) := fun i hi => hk3'.cell (hwcell i hi) (fun h => h)
  have hkcell' : ∀ i, i < 64 → w3.cell? ⟨kg, ko + i, none⟩ = some (.int .i64 ((kAt i).toNat : Int)) := fun i hi => hk3'.cell (hkcell i hi) (fun h => h)
  have hkB := hkA.trans hk3' (fun _ _ h => h)
  rw [List.nil_append] at ho3
  clear hwcell hkcell hk3 hk3' hkA HR
  have HW := Lib.hid hwcell'
  have HK := Lib.hid hkcell'
  clear hwcell' hkcell'
  go_loopw [9, 10] (fun u9 u10 wr => ∃ k : Nat, k ≤ 64 ∧ u10 = .int .i64 k ∧ ZOwn wr w.heap.size u9 (szs (rnds (wlist l 64) s k)) ∧ Keeps (fun _ => False) w wr ∧ Keeps (fun _ => False) w3 wr) (fun _ u10 _ => 64 - (intOf u10).toNat)
  case atStart => exact ⟨0, by omega, rfl, ho3, hkB, Keeps.refl _ _⟩
  case round =>
    obtain ⟨k, hk, rfl, ho, hkw, hkv⟩ := hrel
    obtain ⟨g, o9, c9, rfl, hc9, hm9, hg9⟩ := ho.place (by rw [szs_length]; omega)
    rw [szs_length] at hc9 ho ⊢
    simp only [maxLen] at hm9
    by_cases hlt : k < 64
    · have cw := hkv.cell (HW.out k hlt) (fun h => h)
      have ck := hkv.cell (HK.out k hlt) (fun h => h)
      have hlt' : (k : Int) < 64 := by omega
      have hlt2 : (k : Int) < 72 := by omega
      obtain ⟨X, hX⟩ : ∃ X, (wlist l 64).getD k 0 = X := ⟨_, rfl⟩
      obtain ⟨Y, hY⟩ : ∃ Y, kAt k = Y := ⟨_, rfl⟩
      have hstep : rnds (wlist l 64) s (k + 1) = ⟨tsum (rnds (wlist l 64) s k) Y X + usum (rnds (wlist l 64) s k), (rnds (wlist l 64) s k).a, (rnds (wlist l 64) s k).b, (rnds (wlist l 64) s k).c, (rnds (wlist l 64) s k).d + tsum (rnds (wlist l 64) s k) Y X, (rnds (wlist l 64) s k).e, (rnds (wlist l 64) s k).f, (rnds (wlist l 64) s k).g⟩ := by rw [← hX, ← hY]; rfl
      rw [hX] at cw
      rw [hY] at ck
      obtain ⟨r, hr⟩ : ∃ r, rnds (wlist l 64) s k = r := ⟨_, rfl⟩
      rw [hr] at ho hstep
      obtain ⟨ra, rb, rc, rd, re, rf, rg, rh⟩ := r
      have d : ∀ i (hi : i < 8), wr.cell? ⟨g, o9 + i, none⟩ = some (.int .i64 ((szs ⟨ra, rb, rc, rd, re, rf, rg, rh⟩)[i]'(by rw [szs_length]; exact hi))) := fun i hi => (ho.at i (by rw [szs_length]; exact hi)).1
      have d0 : wr.cell? ⟨g, o9, none⟩ = some (.int .i64 (ra.toNat : Int)) := d 0 (by omega)
      have d1 : wr.cell? ⟨g, o9 + 1, none⟩ = some (.int .i64 (rb.toNat : Int)) := d 1 (by omega)
      have d2 : wr.cell? ⟨g, o9 + 2, none⟩ = some (.int .i64 (rc.toNat : Int)) := d 2 (by omega)
      have d3 : wr.cell? ⟨g, o9 + 3, none⟩ = some (.int .i64 (rd.toNat : Int)) := d 3 (by omega)
      have d4 : wr.cell? ⟨g, o9 + 4, none⟩ = some (.int .i64 (re.toNat : Int)) := d 4 (by omega)
      have d5 : wr.cell? ⟨g, o9 + 5, none⟩ = some (.int .i64 (rf.toNat : Int)) := d 5 (by omega)
      have d6 : wr.cell? ⟨g, o9 + 6, none⟩ = some (.int .i64 (rg.toNat : Int)) := d 6 (by omega)
      have d7 : wr.cell? ⟨g, o9 + 7, none⟩ = some (.int .i64 (rh.toNat : Int)) := d 7 (by omega)
      have xE1 := i_xor (rotr re 6) (rotr re 11)
      have xE2 := i_xor (rotr re 6 ^^^ rotr re 11) (rotr re 25)
      have xA1 := i_xor (rotr ra 2) (rotr ra 13)
      have xA2 := i_xor (rotr ra 2 ^^^ rotr ra 13) (rotr ra 22)
      have xC0 := i_not re
      have xC1 := i_and re rf
      have xC2 := i_and (~~~re) rg
      have xC3 := i_xor (re &&& rf) (~~~re &&& rg)
      have xM1 := i_and ra rb
      have xM2 := i_and ra rc
      have xM3 := i_and rb rc
      have xM4 := i_xor (ra &&& rb) (ra &&& rc)
      have xM5 := i_xor (ra &&& rb ^^^ ra &&& rc) (rb &&& rc)
      have hT : tsum ⟨ra, rb, rc, rd, re, rf, rg, rh⟩ Y X = rh + (rotr re 6 ^^^ rotr re 11 ^^^ rotr re 25) + ((re &&& rf) ^^^ (~~~re &&& rg)) + Y + X := by rw [← ch_eq]; rfl
      have hU : usum ⟨ra, rb, rc, rd, re, rf, rg, rh⟩ = (rotr ra 2 ^^^ rotr ra 13 ^^^ rotr ra 22) + ((ra &&& rb) ^^^ (ra &&& rc) ^^^ (rb &&& rc)) := by rw [← maj_eq]; rfl
      have t1 : ∀ w, Calls Tryd.prog 93 #[.int .i64 (re.toNat : Int), .int .i64 6] w fun e w' => e = .returned (.int .i64 ((rotr re 6).toNat : Int)) ∧ ∃ m, w' = w.drewN m := fun w => turn_any re 6 w (by omega) (by omega)
      have t2 : ∀ w, Calls Tryd.prog 93 #[.int .i64 (re.toNat : Int), .int .i64 11] w fun e w' => e = .returned (.int .i64 ((rotr re 11).toNat : Int)) ∧ ∃ m, w' = w.drewN m := fun w => turn_any re 11 w (by omega) (by omega)
      have t3 : ∀ w, Calls Tryd.prog 93 #[.int .i64 (re.toNat : Int), .int .i64 25] w fun e w' => e = .returned (.int .i64 ((rotr re 25).toNat : Int)) ∧ ∃ m, w' = w.drewN m := fun w => turn_any re 25 w (by omega) (by omega)
      have t4 : ∀ w, Calls Tryd.prog 93 #[.int .i64 (ra.toNat : Int), .int .i64 2] w fun e w' => e = .returned (.int .i64 ((rotr ra 2).toNat : Int)) ∧ Keeps (fun _ => False) w w' := fun w => turn_k ra 2 w (by omega) (by omega)
      have t5 : ∀ w, Calls Tryd.prog 93 #[.int .i64 (ra.toNat : Int), .int .i64 13] w fun e w' => e = .returned (.int .i64 ((rotr ra 13).toNat : Int)) ∧ Keeps (fun _ => False) w w' := fun w => turn_k ra 13 w (by omega) (by omega)
      have t6 : ∀ w, Calls Tryd.prog 93 #[.int .i64 (ra.toNat : Int), .int .i64 22] w fun e w' => e = .returned (.int .i64 ((rotr ra 22).toNat : Int)) ∧ Keeps (fun _ => False) w w' := fun w => turn_k ra 22 w (by omega) (by omega)
      generalize rotr re 6 = q6 at *
      generalize rotr re 11 = q11 at *
      generalize rotr re 25 = q25 at *
      generalize rotr ra 2 = q2 at *
      generalize rotr ra 13 = q13 at *
      generalize rotr ra 22 = q22 at *
      generalize q6 ^^^ q11 = qe at *
      generalize qe ^^^ q25 = SE at *
      generalize q2 ^^^ q13 = qa at *
      generalize qa ^^^ q22 = SA at *
      generalize ~~~re = NE at *
      generalize re &&& rf = C1 at *
      generalize NE &&& rg = C2 at *
      generalize C1 ^^^ C2 = CH at *
      generalize ra &&& rb = M1 at *
      generalize ra &&& rc = M2 at *
      generalize rb &&& rc = M3 at *
      generalize M1 ^^^ M2 = M4 at *
      generalize M4 ^^^ M3 = MJ at *
      have HST := Lib.hid hstep
      have HT := Lib.hid hT
      have HU := Lib.hid hU
      have HX := Lib.hid hX
      have HY := Lib.hid hY
      have HRr := Lib.hid hr
      clear hstep hT hU hX hY hr d
      have ba := u32_lt ra
      have bd := u32_lt rd
      have bh := u32_lt rh
      have bse := u32_lt SE
      have bsa := u32_lt SA
      have bch := u32_lt CH
      have bmj := u32_lt MJ
      have bx := u32_lt X
      have by' := u32_lt Y
      go_wp2
      go_quiet (fail)
      go_wp2
      go_quiet (fail)
      go_wp2
      generalize hw5 : World.drewN (World.drewN wr _) _ = w5
      have k5 : Keeps (fun _ => False) wr w5 := hw5 ▸ (((Keeps.refl _ wr).drewN _).drewN _)
      replace d0 := k5.cell d0 (fun h => h)
      replace d1 := k5.cell d1 (fun h => h)
      replace d2 := k5.cell d2 (fun h => h)
      replace d3 := k5.cell d3 (fun h => h)
      replace d4 := k5.cell d4 (fun h => h)
      replace d5 := k5.cell d5 (fun h => h)
      replace d6 := k5.cell d6 (fun h => h)
      replace d7 := k5.cell d7 (fun h => h)
      replace cw := k5.cell cw (fun h => h)
      replace ck := k5.cell ck (fun h => h)
      replace hkw := hkw.trans k5 (fun _ _ h => h)
      replace hkv := hkv.trans k5 (fun _ _ h => h)
      clear hw5 k5 ho
      go_quiet (first | with_reducible exact Calls.quiet_of (t1 _) | with_reducible exact Calls.quiet_of (t2 _) | with_reducible exact Calls.quiet_of (t3 _))
      have hTu : ((rh.toNat : Int) + (SE.toNat : Int) + (CH.toNat : Int) + (Y.toNat : Int) + (X.toNat : Int)) % 4294967296 = ((tsum ⟨ra, rb, rc, rd, re, rf, rg, rh⟩ Y X).toNat : Int) := by
        rw [HT.out]
        simp only [UInt32.toNat_add]
        omega
      have hUu : ((SA.toNat : Int) + (MJ.toNat : Int)) % 4294967296 = ((usum ⟨ra, rb, rc, rd, re, rf, rg, rh⟩).toNat : Int) := by
        rw [HU.out]
        simp only [UInt32.toNat_add]
        omega
      obtain ⟨T, hTT⟩ : ∃ T : Int, (rh.toNat : Int) + (SE.toNat : Int) + (CH.toNat : Int) + (Y.toNat : Int) + (X.toNat : Int) = T := ⟨_, rfl⟩
      obtain ⟨U, hUU⟩ : ∃ U : Int, (SA.toNat : Int) + (MJ.toNat : Int) = U := ⟨_, rfl⟩
      rw [hTT] at hTu
      rw [hUU] at hUu
      have T0 : 0 ≤ T := by omega
      have T1 : T ≤ 42949672960 := by omega
      have U0 : 0 ≤ U := by omega
      have U1 : U ≤ 42949672960 := by omega
      have hA : (T + U) % 4294967296 = ((tsum ⟨ra, rb, rc, rd, re, rf, rg, rh⟩ Y X + usum ⟨ra, rb, rc, rd, re, rf, rg, rh⟩).toNat : Int) := m_plus2 hTu hUu
      have hE : ((rd.toNat : Int) + T) % 4294967296 = ((rd + tsum ⟨ra, rb, rc, rd, re, rf, rg, rh⟩ Y X).toNat : Int) := m_plus1 hTu
      obtain ⟨A', hA'⟩ : ∃ A', tsum ⟨ra, rb, rc, rd, re, rf, rg, rh⟩ Y X + usum ⟨ra, rb, rc, rd, re, rf, rg, rh⟩ = A' := ⟨_, rfl⟩
      obtain ⟨E', hE'⟩ : ∃ E', rd + tsum ⟨ra, rb, rc, rd, re, rf, rg, rh⟩ Y X = E' := ⟨_, rfl⟩
      rw [hA'] at hA
      rw [hE'] at hE
      have HA' := Lib.hid hA'
      have HE' := Lib.hid hE'
      have hkQ : ∀ n, Keeps (fun _ => False) w5 (w5.drewN n) := fun n => (Keeps.refl _ w5).drewN n
      clear hTu hUu hA' hE' xE1 xE2 xC0 xC1 xC2 xC3 xM1 xM2 xM3 xM4 xM5 t1 t2 t3
      go_wp2_with fail
      rw [hTT]
      clear hTT
      refine (t4 _).mono ?_
      rintro e w6 ⟨rfl, hk6⟩
      go_wp2_with fail
      refine (t5 _).mono ?_
      rintro e w7 ⟨rfl, hk7⟩
      go_wp2_with fail
      refine (t6 _).mono ?_
      rintro e w8 ⟨rfl, hk8⟩
      have k8 := ((hkQ _).trans hk6 (fun _ _ h => h)).trans (hk7.trans hk8 (fun _ _ h => h)) (fun _ _ h => h)
      replace d0 := k8.cell d0 (fun h => h)
      replace d1 := k8.cell d1 (fun h => h)
      replace d2 := k8.cell d2 (fun h => h)
      replace d3 := k8.cell d3 (fun h => h)
      replace d4 := k8.cell d4 (fun h => h)
      replace d5 := k8.cell d5 (fun h => h)
      replace d6 := k8.cell d6 (fun h => h)
      replace hkw := hkw.trans k8 (fun _ _ h => h)
      replace hkv := hkv.trans k8 (fun _ _ h => h)
      clear d7 cw ck hk6 hk7 hk8 hkQ k8 t4 t5 t6
      go_wp2_with fail
      clear xA1 xA2
      refine region_draws_tail 28 (by kernel_rfl) (by kernel_rfl) ?_
      simp only [List.take_succ_cons, List.take_zero, List.drop_succ_cons, List.drop_zero]
      repeat (go_big_quiet_step (fail))
      refine wpQuiet_nil ?_
      rintro _ ⟨nq, rfl⟩
      go_wp2
      go_roundw
      case rel =>
        have hfin : rnds (wlist l 64) s (k + 1) = ⟨A', ra, rb, rc, E', re, rf, rg⟩ := by
          rw [HST.out]
          show S8.mk _ _ _ _ _ _ _ _ = _
          rw [HA'.out, HE'.out]
        refine ⟨k + 1, by omega, by go_num, ?_, (hkw.drewN _).alloc _, (hkv.drewN _).alloc _⟩
        rw [hfin]
        exact ZOwn.lit _ _ (szs ⟨A', ra, rb, rc, E', re, rf, rg⟩) 8 _ rfl rfl (by omega) hkw.size
      case measure => simp [intOf]; omega
    · have hk64 : k = 64 := by omega
      have hk64' : (64 : Int) ≤ (k : Int) := by omega
      rw [hk64] at ho
      clear hk64
      obtain ⟨R, hR⟩ : ∃ R, rnds (wlist l 64) s 64 = R := ⟨_, rfl⟩
      have hfin : mixL s R 8 = words8 (addS s l) := by rw [← hR]; exact mixL_full s l
      rw [hR] at ho
      have hsc' : ∀ i, i < 8 → wr.cell? ⟨sb, so + i, none⟩ = some (.int .i64 (((words8 s).getD i 0).toNat : Int)) := fun i hi => hkw.cell (HS.out i hi) (fun h => h)
      have HF := Lib.hid hfin
      have HS2 := Lib.hid hsc'
      clear hR hfin hsc'
      go_wp2
      go_loopw [17] (fun u17 wq => ∃ k : Nat, k ≤ 8 ∧ u17 = .int .i64 k ∧ ZOwn wq w.heap.size (.slice (some ⟨g, o9, none⟩) 8 c9) (zs (mixL s R k)) ∧ Keeps (fun _ => False) w wq) (fun u17 _ => 8 - (intOf u17).toNat)
      case atStart => exact ⟨0, by omega, rfl, ho, hkw⟩
      case round =>
        obtain ⟨k, hk, rfl, ho, hkq⟩ := hrel
        by_cases hlt : k < 8
        · obtain ⟨z1, z2, z3⟩ := ho.at k (by rw [zs_length, mixL_len]; exact hlt)
          rw [zs_get, mixL_get s R k hlt] at z1
          have c1 := hkq.cell (HS.out k hlt) (fun h => h)
          have hst := mixL_step s R k hlt
          obtain ⟨x, hx⟩ : ∃ x, (words8 R).getD k 0 = x := ⟨_, rfl⟩
          obtain ⟨y, hy⟩ : ∃ y, (words8 s).getD k 0 = y := ⟨_, rfl⟩
          rw [hx] at z1
          rw [hy] at c1
          rw [hx, hy] at hst
          have hlt' : (k : Int) < 8 := by omega
          have hsum := m_plus x y
          have bx := u32_lt x
          have by' := u32_lt y
          obtain ⟨S, hS⟩ : ∃ S, x + y = S := ⟨_, rfl⟩
          rw [hS] at hsum hst
          have z4 := z3 (S.toNat : Int)
          rw [zs_set _ k S _ rfl, hst] at z4
          have HZ := Lib.hid z4
          clear hst hx hy hS z3 z4
          go_wp2
          refine region_draws_tail 12 (by kernel_rfl) (by kernel_rfl) ?_
          simp only [List.take_succ_cons, List.take_zero, List.drop_succ_cons, List.drop_zero]
          repeat (go_big_quiet_step (fail))
          refine wpQuiet_nil ?_
          rintro _ ⟨nq, rfl⟩
          go_wp2
          go_roundw
          case rel => exact ⟨k + 1, by omega, by go_num, HZ.out.keeps ((Keeps.refl (fun _ => False) _).drewN _) (fun _ _ h => h), (hkq.drewN _).setCell _ _ (.inr hg9)⟩
          case measure => simp [intOf]; omega
        · have hk8 : k = 8 := by omega
          have hk8' : (8 : Int) ≤ (k : Int) := by omega
          rw [hk8, HF.out] at ho
          clear hk8
          go_wp2
          go_ret2
          exact ⟨_, rfl, ho, hkq⟩
end Go.Proofs.YtekaoknpjpbjgaaDoor
