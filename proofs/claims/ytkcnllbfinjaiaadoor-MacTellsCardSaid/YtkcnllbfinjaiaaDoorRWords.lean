/- redoubtref10.Words: the words of a block, as ints. -/
import Derived.Test.YtkcnllbfinjaiaaDoorRState
import Derived.Test.YtkcnllbfinjaiaaDoorAnyW
namespace Go.Proofs.YtkcnllbfinjaiaaDoor
open Go.RowKit

theorem zs_append (l m : List UInt32) : zs (l ++ m) = zs l ++ zs m := by simp [zs]
theorem or_sum (A y : Nat) (hA : A < 16777216) (hy : y < 256) : (A * 256 % 4294967296 ||| y) = A * 256 + y := by
  rw [Nat.mod_eq_of_lt (by omega), show A * 256 = A <<< 8 by rw [Nat.shiftLeft_eq], ← Nat.shiftLeft_add_eq_or_of_lt (by omega)]
def bstep (A : UInt32) (y : UInt8) : UInt32 := UInt32.ofNat ((A.toNat * 256 % 4294967296) ||| y.toNat)
theorem bstep_nat (A : UInt32) (y : UInt8) (hA : A.toNat < 16777216) : (bstep A y).toNat = A.toNat * 256 + y.toNat := by
  have hy := y.toNat_lt
  unfold bstep
  rw [or_sum _ _ hA (by omega), ofNat_toNat (by omega)]
theorem bacc_steps (a b c d : UInt8) : bacc [a, b, c, d] = bstep (bstep (bstep (bstep 0 a) b) c) d := rfl
theorem bacc4 (a b c d : UInt8) : (bacc [a, b, c, d]).toNat = 16777216 * a.toNat + 65536 * b.toNat + 256 * c.toNat + d.toNat := by
  have ha := a.toNat_lt
  have hb := b.toNat_lt
  have hc := c.toNat_lt
  have h0 : (0 : UInt32).toNat = 0 := by decide
  rw [bacc_steps]
  have h1 := bstep_nat 0 a (by omega)
  have h2 := bstep_nat (bstep 0 a) b (by omega)
  have h3 := bstep_nat (bstep (bstep 0 a) b) c (by omega)
  rw [bstep_nat _ d (by omega)]
  omega
theorem i64_fit (x : Int) (h1 : -9223372036854775808 ≤ x) (h2 : x ≤ 9223372036854775807) : IntKind.i64.wrap x = x := by
  simp [IntKind.wrap, IntKind.bits, IntKind.signed]
  omega
theorem zw_low (l : List UInt8) (k : Nat) (hk : k < 16) (hl : l.length = 64) :
    (wnext l (wlist l k)).toNat = 16777216 * (l.getD (4 * k) 0).toNat + 65536 * (l.getD (4 * k + 1) 0).toNat + 256 * (l.getD (4 * k + 2) 0).toNat + (l.getD (4 * k + 3) 0).toNat := by
  unfold wnext
  rw [wlist_length, if_pos hk]
  have e : (l.drop (4 * k)).take 4 = [l.getD (4 * k) 0, l.getD (4 * k + 1) 0, l.getD (4 * k + 2) 0, l.getD (4 * k + 3) 0] := by
    apply List.ext_getElem?
    intro j
    by_cases hj : j < 4
    · rw [List.getElem?_take, if_pos hj, List.getElem?_drop]
      match j, hj with
      | 0, _ => simp [show 4 * k < l.length by omega]
      | 1, _ => simp [show 4 * k + 1 < l.length by omega]
      | 2, _ => simp [show 4 * k + 2 < l.length by omega]
      | 3, _ => simp [show 4 * k + 3 < l.length by omega]
    · rw [List.getElem?_take, if_neg hj, List.getElem?_eq_none (by simp; omega)]
  rw [e, bacc4]
theorem zw_high (l : List UInt8) (k a16 a15 a7 a2 : Nat) (h16 : a16 + 16 = k) (h15 : a15 + 15 = k) (h7 : a7 + 7 = k) (h2 : a2 + 2 = k) :
    wnext l (wlist l k) = (wlist l k).getD a16 0 + (rotr ((wlist l k).getD a15 0) 7 ^^^ rotr ((wlist l k).getD a15 0) 18 ^^^ shrN ((wlist l k).getD a15 0) 3) + (wlist l k).getD a7 0 +
      (rotr ((wlist l k).getD a2 0) 17 ^^^ rotr ((wlist l k).getD a2 0) 19 ^^^ shrN ((wlist l k).getD a2 0) 10) := by
  unfold wnext
  rw [wlist_length, if_neg (by omega), show k - 16 = a16 by omega, show k - 15 = a15 by omega, show k - 7 = a7 by omega, show k - 2 = a2 by omega]

theorem wrap64_u32 (x : UInt32) : wrap64 (x.toNat : Int) = (x.toNat : Int) := by
  have h := u32_lt x
  unfold wrap64
  omega
theorem turn_k (x : UInt32) (n : Nat) (w : World) (h1 : 1 ≤ n) (h2 : n ≤ 31) :
    Calls Tryd.prog 34 #[.int .i64 x.toNat, .int .i64 n] w fun e w' => e = .returned (.int .i64 ((rotr x n).toNat : Int)) ∧ Keeps (fun _ => False) w w' :=
  (turn_any x n w h1 h2).mono fun e w' ⟨he, m, hm⟩ => ⟨he, hm ▸ (Keeps.refl _ w).drewN m⟩
theorem zs_one (x : UInt32) (z : Int) (h : z = (x.toNat : Int)) : [z] = zs [x] := by rw [h]; rfl

set_option maxRecDepth 100000 in
set_option maxHeartbeats 4000000 in
theorem rwords_any (v : Value) (l : List UInt8) (w : World) (h : BRd w v l) (hl : l.length = 64) :
    Calls Tryd.prog 32 #[v] w fun e w' => ∃ x, e = .returned (.tuple #[x, .int .i64 0]) ∧ ZOwn w' w.heap.size x (zs (wlist l 64)) ∧ Keeps (fun _ => False) w w' := by
  obtain ⟨b, off, c, rfl, hc, hm, hb, hcell⟩ := BAt.get h (by omega)
  rw [hl] at hc ⊢
  simp only [maxLen] at hm
  have hcell' : ∀ i, i < 64 → w.cell? ⟨b, off + i, none⟩ = some (.int .u8 ((l.getD i 0).toNat : Int)) := fun i hi => by
    rw [hcell i (by omega)]
    simp [show i < l.length by omega]
  have HL := Lib.hid hl
  clear hl hcell h
  go_enter Tryd.func32, Tryd.ntmps32
  go_wp2
  go_loopw [4, 5] (fun u4 u5 wr => ∃ k : Nat, k ≤ 64 ∧ u5 = .int .i64 k ∧ ZOwn wr w.heap.size u4 (zs (wlist l k)) ∧ Keeps (fun _ => False) w wr) (fun _ u5 _ => 64 - (intOf u5).toNat)
  case atStart => exact ⟨0, by omega, rfl, ZOwn.nil _ _, Keeps.refl _ _⟩
  case round =>
    obtain ⟨k, hk, rfl, ho, hkw⟩ := hrel
    by_cases hlt : k < 64
    · by_cases h16 : k < 16
      · obtain ⟨K0, e0⟩ : ∃ a, 4 * k = a := ⟨_, rfl⟩
        obtain ⟨K1, e1⟩ : ∃ a, 4 * k + 1 = a := ⟨_, rfl⟩
        obtain ⟨K2, e2⟩ : ∃ a, 4 * k + 2 = a := ⟨_, rfl⟩
        obtain ⟨K3, e3⟩ : ∃ a, 4 * k + 3 = a := ⟨_, rfl⟩
        have hn := zw_low l k h16 HL.out
        rw [e1, e2, e3, e0] at hn
        have c0 := hkw.cell (hcell' K0 (by omega)) (fun h => h)
        have c1 := hkw.cell (hcell' K1 (by omega)) (fun h => h)
        have c2 := hkw.cell (hcell' K2 (by omega)) (fun h => h)
        have c3 := hkw.cell (hcell' K3 (by omega)) (fun h => h)
        have k0 : (4 : Int) * k = (K0 : Int) := by omega
        have k1 : (K0 : Int) + 1 = (K1 : Int) := by omega
        have k2 : (K0 : Int) + 2 = (K2 : Int) := by omega
        have k3 : (K0 : Int) + 3 = (K3 : Int) := by omega
        have l0 : (K0 : Int) < 64 := by omega
        have l1 : (K1 : Int) < 64 := by omega
        have l2 : (K2 : Int) < 64 := by omega
        have l3 : (K3 : Int) < 64 := by omega
        obtain ⟨X, hX⟩ : ∃ X, wnext l (wlist l k) = X := ⟨_, rfl⟩
        obtain ⟨A0, hA0⟩ : ∃ A, l.getD K0 0 = A := ⟨_, rfl⟩
        obtain ⟨A1, hA1⟩ : ∃ A, l.getD K1 0 = A := ⟨_, rfl⟩
        obtain ⟨A2, hA2⟩ : ∃ A, l.getD K2 0 = A := ⟨_, rfl⟩
        obtain ⟨A3, hA3⟩ : ∃ A, l.getD K3 0 = A := ⟨_, rfl⟩
        rw [hX, hA0, hA1, hA2, hA3] at hn
        rw [hA0] at c0
        rw [hA1] at c1
        rw [hA2] at c2
        rw [hA3] at c3
        have b0 : (A0.toNat : Int) ≤ 255 := by have := A0.toNat_lt; omega
        have b1 : (A1.toNat : Int) ≤ 255 := by have := A1.toNat_lt; omega
        have b2 : (A2.toNat : Int) ≤ 255 := by have := A2.toNat_lt; omega
        have b3 : (A3.toNat : Int) ≤ 255 := by have := A3.toNat_lt; omega
        clear hA0 hA1 hA2 hA3 hcell' e0 e1 e2 e3
        have p0 := i64_fit (K0 : Int) (by omega) (by omega)
        have p1 := i64_fit (K1 : Int) (by omega) (by omega)
        have p2 := i64_fit (K2 : Int) (by omega) (by omega)
        have p3 := i64_fit (K3 : Int) (by omega) (by omega)
        have a0 := i64_fit (A0.toNat : Int) (by omega) (by omega)
        have a1 := i64_fit (A1.toNat : Int) (by omega) (by omega)
        have a2 := i64_fit (A2.toNat : Int) (by omega) (by omega)
        have a3 := i64_fit (A3.toNat : Int) (by omega) (by omega)
        have m0 := i64_fit (16777216 * (A0.toNat : Int)) (by omega) (by omega)
        have m1 := i64_fit (65536 * (A1.toNat : Int)) (by omega) (by omega)
        have m2 := i64_fit (256 * (A2.toNat : Int)) (by omega) (by omega)
        have s1 := i64_fit (16777216 * (A0.toNat : Int) + 65536 * (A1.toNat : Int)) (by omega) (by omega)
        have s2 := i64_fit (16777216 * (A0.toNat : Int) + 65536 * (A1.toNat : Int) + 256 * (A2.toNat : Int)) (by omega) (by omega)
        have s3 := i64_fit (16777216 * (A0.toNat : Int) + 65536 * (A1.toNat : Int) + 256 * (A2.toNat : Int) + (A3.toNat : Int)) (by omega) (by omega)
        have HX := Lib.hid hX
        have HN := Lib.hid hn
        clear hX hn
        go_wp2
        refine region_T [34] (fun w' => w'.cell? ⟨b, off + K0, none⟩ = some (.int .u8 (A0.toNat : Int)) ∧ w'.cell? ⟨b, off + K1, none⟩ = some (.int .u8 (A1.toNat : Int)) ∧ w'.cell? ⟨b, off + K2, none⟩ = some (.int .u8 (A2.toNat : Int)) ∧ w'.cell? ⟨b, off + K3, none⟩ = some (.int .u8 (A3.toNat : Int))) (by kernel_rfl) ?_
        have hC : (fun w' : World => w'.cell? ⟨b, off + K0, none⟩ = some (.int .u8 (A0.toNat : Int)) ∧ w'.cell? ⟨b, off + K1, none⟩ = some (.int .u8 (A1.toNat : Int)) ∧ w'.cell? ⟨b, off + K2, none⟩ = some (.int .u8 (A2.toNat : Int)) ∧ w'.cell? ⟨b, off + K3, none⟩ = some (.int .u8 (A3.toNat : Int))) wr.drew := ⟨c0, c1, c2, c3⟩
        refine anyT_take0 (i := 0) (v := ?_) rfl (by kernel_rfl) (by kernel_rfl) (by kernel_rfl) (by kernel_rfl) (by kernel_rfl) (fun _ _ _ h => h) hC (.inl ⟨by rfl, fun _ _ => ?_⟩) ?_
        rotate_left 1
        · go_simp
          try with_reducible rfl
        simp only [Act.put, List.getElem_toArray, List.getElem_cons_succ, List.getElem_cons_zero, List.setIfInBounds_toArray, List.set_cons_zero, List.set_cons_succ]
        refine anyT_take0 (i := 1) (v := ?_) rfl (by kernel_rfl) (by kernel_rfl) (by kernel_rfl) (by kernel_rfl) (by kernel_rfl) (fun _ _ _ h => h) hC (.inl ⟨by rfl, fun _ _ => ?_⟩) ?_
        rotate_left 1
        · go_simp
          try with_reducible rfl
        simp only [Act.put, List.getElem_toArray, List.getElem_cons_succ, List.getElem_cons_zero, List.setIfInBounds_toArray, List.set_cons_zero, List.set_cons_succ]
        refine anyT_take0 (i := 2) (v := ?_) rfl (by kernel_rfl) (by kernel_rfl) (by kernel_rfl) (by kernel_rfl) (by kernel_rfl) (fun _ _ _ h => h) hC (.inl ⟨by rfl, fun _ _ => ?_⟩) ?_
        rotate_left 1
        · go_simp
          try with_reducible rfl
        simp only [Act.put, List.getElem_toArray, List.getElem_cons_succ, List.getElem_cons_zero, List.setIfInBounds_toArray, List.set_cons_zero, List.set_cons_succ]
        refine anyT_take0 (i := 3) (v := ?_) rfl (by kernel_rfl) (by kernel_rfl) (by kernel_rfl) (by kernel_rfl) (by kernel_rfl) (fun _ _ _ h => h) hC (.inl ⟨by rfl, fun _ _ => ?_⟩) ?_
        rotate_left 1
        · go_simp
          try with_reducible rfl
        simp only [Act.put, List.getElem_toArray, List.getElem_cons_succ, List.getElem_cons_zero, List.setIfInBounds_toArray, List.set_cons_zero, List.set_cons_succ]
        refine anyT_take0 (i := 4) (v := ?_) rfl (by kernel_rfl) (by kernel_rfl) (by kernel_rfl) (by kernel_rfl) (by kernel_rfl) (fun _ _ _ h => h) hC (.inl ⟨by rfl, fun _ _ => ?_⟩) ?_
        rotate_left 1
        · go_simp
          try with_reducible rfl
        simp only [Act.put, List.getElem_toArray, List.getElem_cons_succ, List.getElem_cons_zero, List.setIfInBounds_toArray, List.set_cons_zero, List.set_cons_succ]
        refine anyT_takeW (i := 5) (v := ?_) rfl (by kernel_rfl) (by kernel_rfl) (by kernel_rfl) (by kernel_rfl) (by kernel_rfl) (by kernel_rfl) (fun _ _ _ h => h) hC (.inl ⟨by rfl, fun w hCw => ?_⟩) ?_
        rotate_left 1
        · dsimp only at hCw
          go_simp
          try with_reducible rfl
        simp only [Act.put, List.getElem_toArray, List.getElem_cons_succ, List.getElem_cons_zero, List.setIfInBounds_toArray, List.set_cons_zero, List.set_cons_succ]
        refine anyT_take0 (i := 6) (v := ?_) rfl (by kernel_rfl) (by kernel_rfl) (by kernel_rfl) (by kernel_rfl) (by kernel_rfl) (fun _ _ _ h => h) hC (.inl ⟨by rfl, fun _ _ => ?_⟩) ?_
        rotate_left 1
        · go_simp
          try with_reducible rfl
        simp only [Act.put, List.getElem_toArray, List.getElem_cons_succ, List.getElem_cons_zero, List.setIfInBounds_toArray, List.set_cons_zero, List.set_cons_succ]
        refine anyT_take0 (i := 7) (v := ?_) rfl (by kernel_rfl) (by kernel_rfl) (by kernel_rfl) (by kernel_rfl) (by kernel_rfl) (fun _ _ _ h => h) hC (.inl ⟨by rfl, fun _ _ => ?_⟩) ?_
        rotate_left 1
        · go_simp
          try with_reducible rfl
        simp only [Act.put, List.getElem_toArray, List.getElem_cons_succ, List.getElem_cons_zero, List.setIfInBounds_toArray, List.set_cons_zero, List.set_cons_succ]
        refine anyT_take0 (i := 8) (v := ?_) rfl (by kernel_rfl) (by kernel_rfl) (by kernel_rfl) (by kernel_rfl) (by kernel_rfl) (fun _ _ _ h => h) hC (.inl ⟨by rfl, fun _ _ => ?_⟩) ?_
        rotate_left 1
        · go_simp
          try with_reducible rfl
        simp only [Act.put, List.getElem_toArray, List.getElem_cons_succ, List.getElem_cons_zero, List.setIfInBounds_toArray, List.set_cons_zero, List.set_cons_succ]
        refine anyT_take0 (i := 9) (v := ?_) rfl (by kernel_rfl) (by kernel_rfl) (by kernel_rfl) (by kernel_rfl) (by kernel_rfl) (fun _ _ _ h => h) hC (.inl ⟨by rfl, fun _ _ => ?_⟩) ?_
        rotate_left 1
        · go_simp
          try with_reducible rfl
        simp only [Act.put, List.getElem_toArray, List.getElem_cons_succ, List.getElem_cons_zero, List.setIfInBounds_toArray, List.set_cons_zero, List.set_cons_succ]
        refine anyT_take0 (i := 10) (v := ?_) rfl (by kernel_rfl) (by kernel_rfl) (by kernel_rfl) (by kernel_rfl) (by kernel_rfl) (fun _ _ _ h => h) hC (.inl ⟨by rfl, fun _ _ => ?_⟩) ?_
        rotate_left 1
        · go_simp
          try with_reducible rfl
        simp only [Act.put, List.getElem_toArray, List.getElem_cons_succ, List.getElem_cons_zero, List.setIfInBounds_toArray, List.set_cons_zero, List.set_cons_succ]
        refine anyT_take0 (i := 11) (v := ?_) rfl (by kernel_rfl) (by kernel_rfl) (by kernel_rfl) (by kernel_rfl) (by kernel_rfl) (fun _ _ _ h => h) hC (.inl ⟨by rfl, fun _ _ => ?_⟩) ?_
        rotate_left 1
        · go_simp
          try with_reducible rfl
        simp only [Act.put, List.getElem_toArray, List.getElem_cons_succ, List.getElem_cons_zero, List.setIfInBounds_toArray, List.set_cons_zero, List.set_cons_succ]
        refine anyT_take0 (i := 12) (v := ?_) rfl (by kernel_rfl) (by kernel_rfl) (by kernel_rfl) (by kernel_rfl) (by kernel_rfl) (fun _ _ _ h => h) hC (.inl ⟨by rfl, fun _ _ => ?_⟩) ?_
        rotate_left 1
        · go_simp
          try with_reducible rfl
        simp only [Act.put, List.getElem_toArray, List.getElem_cons_succ, List.getElem_cons_zero, List.setIfInBounds_toArray, List.set_cons_zero, List.set_cons_succ]
        refine anyT_takeW (i := 13) (v := ?_) rfl (by kernel_rfl) (by kernel_rfl) (by kernel_rfl) (by kernel_rfl) (by kernel_rfl) (by kernel_rfl) (fun _ _ _ h => h) hC (.inl ⟨by rfl, fun w hCw => ?_⟩) ?_
        rotate_left 1
        · dsimp only at hCw
          go_simp
          try with_reducible rfl
        simp only [Act.put, List.getElem_toArray, List.getElem_cons_succ, List.getElem_cons_zero, List.setIfInBounds_toArray, List.set_cons_zero, List.set_cons_succ]
        refine anyT_take0 (i := 14) (v := ?_) rfl (by kernel_rfl) (by kernel_rfl) (by kernel_rfl) (by kernel_rfl) (by kernel_rfl) (fun _ _ _ h => h) hC (.inl ⟨by rfl, fun _ _ => ?_⟩) ?_
        rotate_left 1
        · go_simp
          try with_reducible rfl
        simp only [Act.put, List.getElem_toArray, List.getElem_cons_succ, List.getElem_cons_zero, List.setIfInBounds_toArray, List.set_cons_zero, List.set_cons_succ]
        refine anyT_take0 (i := 15) (v := ?_) rfl (by kernel_rfl) (by kernel_rfl) (by kernel_rfl) (by kernel_rfl) (by kernel_rfl) (fun _ _ _ h => h) hC (.inl ⟨by rfl, fun _ _ => ?_⟩) ?_
        rotate_left 1
        · go_simp
          try with_reducible rfl
        simp only [Act.put, List.getElem_toArray, List.getElem_cons_succ, List.getElem_cons_zero, List.setIfInBounds_toArray, List.set_cons_zero, List.set_cons_succ]
        refine anyT_take0 (i := 16) (v := ?_) rfl (by kernel_rfl) (by kernel_rfl) (by kernel_rfl) (by kernel_rfl) (by kernel_rfl) (fun _ _ _ h => h) hC (.inl ⟨by rfl, fun _ _ => ?_⟩) ?_
        rotate_left 1
        · go_simp
          try with_reducible rfl
        simp only [Act.put, List.getElem_toArray, List.getElem_cons_succ, List.getElem_cons_zero, List.setIfInBounds_toArray, List.set_cons_zero, List.set_cons_succ]
        refine anyT_take0 (i := 17) (v := ?_) rfl (by kernel_rfl) (by kernel_rfl) (by kernel_rfl) (by kernel_rfl) (by kernel_rfl) (fun _ _ _ h => h) hC (.inl ⟨by rfl, fun _ _ => ?_⟩) ?_
        rotate_left 1
        · go_simp
          try with_reducible rfl
        simp only [Act.put, List.getElem_toArray, List.getElem_cons_succ, List.getElem_cons_zero, List.setIfInBounds_toArray, List.set_cons_zero, List.set_cons_succ]
        refine anyT_take0 (i := 18) (v := ?_) rfl (by kernel_rfl) (by kernel_rfl) (by kernel_rfl) (by kernel_rfl) (by kernel_rfl) (fun _ _ _ h => h) hC (.inl ⟨by rfl, fun _ _ => ?_⟩) ?_
        rotate_left 1
        · go_simp
          try with_reducible rfl
        simp only [Act.put, List.getElem_toArray, List.getElem_cons_succ, List.getElem_cons_zero, List.setIfInBounds_toArray, List.set_cons_zero, List.set_cons_succ]
        refine anyT_take0 (i := 19) (v := ?_) rfl (by kernel_rfl) (by kernel_rfl) (by kernel_rfl) (by kernel_rfl) (by kernel_rfl) (fun _ _ _ h => h) hC (.inl ⟨by rfl, fun _ _ => ?_⟩) ?_
        rotate_left 1
        · go_simp
          try with_reducible rfl
        simp only [Act.put, List.getElem_toArray, List.getElem_cons_succ, List.getElem_cons_zero, List.setIfInBounds_toArray, List.set_cons_zero, List.set_cons_succ]
        refine anyT_take0 (i := 20) (v := ?_) rfl (by kernel_rfl) (by kernel_rfl) (by kernel_rfl) (by kernel_rfl) (by kernel_rfl) (fun _ _ _ h => h) hC (.inl ⟨by rfl, fun _ _ => ?_⟩) ?_
        rotate_left 1
        · go_simp
          try with_reducible rfl
        simp only [Act.put, List.getElem_toArray, List.getElem_cons_succ, List.getElem_cons_zero, List.setIfInBounds_toArray, List.set_cons_zero, List.set_cons_succ]
        refine anyT_take0 (i := 21) (v := ?_) rfl (by kernel_rfl) (by kernel_rfl) (by kernel_rfl) (by kernel_rfl) (by kernel_rfl) (fun _ _ _ h => h) hC (.inl ⟨by rfl, fun _ _ => ?_⟩) ?_
        rotate_left 1
        · go_simp
          try with_reducible rfl
        simp only [Act.put, List.getElem_toArray, List.getElem_cons_succ, List.getElem_cons_zero, List.setIfInBounds_toArray, List.set_cons_zero, List.set_cons_succ]
        refine anyT_takeW (i := 22) (v := ?_) rfl (by kernel_rfl) (by kernel_rfl) (by kernel_rfl) (by kernel_rfl) (by kernel_rfl) (by kernel_rfl) (fun _ _ _ h => h) hC (.inl ⟨by rfl, fun w hCw => ?_⟩) ?_
        rotate_left 1
        · dsimp only at hCw
          go_simp
          try with_reducible rfl
        simp only [Act.put, List.getElem_toArray, List.getElem_cons_succ, List.getElem_cons_zero, List.setIfInBounds_toArray, List.set_cons_zero, List.set_cons_succ]
        refine anyT_take0 (i := 23) (v := ?_) rfl (by kernel_rfl) (by kernel_rfl) (by kernel_rfl) (by kernel_rfl) (by kernel_rfl) (fun _ _ _ h => h) hC (.inl ⟨by rfl, fun _ _ => ?_⟩) ?_
        rotate_left 1
        · go_simp
          try with_reducible rfl
        simp only [Act.put, List.getElem_toArray, List.getElem_cons_succ, List.getElem_cons_zero, List.setIfInBounds_toArray, List.set_cons_zero, List.set_cons_succ]
        refine anyT_take0 (i := 24) (v := ?_) rfl (by kernel_rfl) (by kernel_rfl) (by kernel_rfl) (by kernel_rfl) (by kernel_rfl) (fun _ _ _ h => h) hC (.inl ⟨by rfl, fun _ _ => ?_⟩) ?_
        rotate_left 1
        · go_simp
          try with_reducible rfl
        simp only [Act.put, List.getElem_toArray, List.getElem_cons_succ, List.getElem_cons_zero, List.setIfInBounds_toArray, List.set_cons_zero, List.set_cons_succ]
        refine anyT_take0 (i := 25) (v := ?_) rfl (by kernel_rfl) (by kernel_rfl) (by kernel_rfl) (by kernel_rfl) (by kernel_rfl) (fun _ _ _ h => h) hC (.inl ⟨by rfl, fun _ _ => ?_⟩) ?_
        rotate_left 1
        · go_simp
          try with_reducible rfl
        simp only [Act.put, List.getElem_toArray, List.getElem_cons_succ, List.getElem_cons_zero, List.setIfInBounds_toArray, List.set_cons_zero, List.set_cons_succ]
        refine anyT_take0 (i := 26) (v := ?_) rfl (by kernel_rfl) (by kernel_rfl) (by kernel_rfl) (by kernel_rfl) (by kernel_rfl) (fun _ _ _ h => h) hC (.inl ⟨by rfl, fun _ _ => ?_⟩) ?_
        rotate_left 1
        · go_simp
          try with_reducible rfl
        simp only [Act.put, List.getElem_toArray, List.getElem_cons_succ, List.getElem_cons_zero, List.setIfInBounds_toArray, List.set_cons_zero, List.set_cons_succ]
        refine anyT_take0 (i := 27) (v := ?_) rfl (by kernel_rfl) (by kernel_rfl) (by kernel_rfl) (by kernel_rfl) (by kernel_rfl) (fun _ _ _ h => h) hC (.inl ⟨by rfl, fun _ _ => ?_⟩) ?_
        rotate_left 1
        · go_simp
          try with_reducible rfl
        simp only [Act.put, List.getElem_toArray, List.getElem_cons_succ, List.getElem_cons_zero, List.setIfInBounds_toArray, List.set_cons_zero, List.set_cons_succ]
        refine anyT_take0 (i := 28) (v := ?_) rfl (by kernel_rfl) (by kernel_rfl) (by kernel_rfl) (by kernel_rfl) (by kernel_rfl) (fun _ _ _ h => h) hC (.inl ⟨by rfl, fun _ _ => ?_⟩) ?_
        rotate_left 1
        · go_simp
          try with_reducible rfl
        simp only [Act.put, List.getElem_toArray, List.getElem_cons_succ, List.getElem_cons_zero, List.setIfInBounds_toArray, List.set_cons_zero, List.set_cons_succ]
        refine anyT_take0 (i := 29) (v := ?_) rfl (by kernel_rfl) (by kernel_rfl) (by kernel_rfl) (by kernel_rfl) (by kernel_rfl) (fun _ _ _ h => h) hC (.inl ⟨by rfl, fun _ _ => ?_⟩) ?_
        rotate_left 1
        · go_simp
          try with_reducible rfl
        simp only [Act.put, List.getElem_toArray, List.getElem_cons_succ, List.getElem_cons_zero, List.setIfInBounds_toArray, List.set_cons_zero, List.set_cons_succ]
        refine anyT_take0 (i := 30) (v := ?_) rfl (by kernel_rfl) (by kernel_rfl) (by kernel_rfl) (by kernel_rfl) (by kernel_rfl) (fun _ _ _ h => h) hC (.inl ⟨by rfl, fun _ _ => ?_⟩) ?_
        rotate_left 1
        · go_simp
          try with_reducible rfl
        simp only [Act.put, List.getElem_toArray, List.getElem_cons_succ, List.getElem_cons_zero, List.setIfInBounds_toArray, List.set_cons_zero, List.set_cons_succ]
        refine anyT_takeW (i := 31) (v := ?_) rfl (by kernel_rfl) (by kernel_rfl) (by kernel_rfl) (by kernel_rfl) (by kernel_rfl) (by kernel_rfl) (fun _ _ _ h => h) hC (.inl ⟨by rfl, fun w hCw => ?_⟩) ?_
        rotate_left 1
        · dsimp only at hCw
          go_simp
          try with_reducible rfl
        simp only [Act.put, List.getElem_toArray, List.getElem_cons_succ, List.getElem_cons_zero, List.setIfInBounds_toArray, List.set_cons_zero, List.set_cons_succ]
        refine anyT_take0 (i := 32) (v := ?_) rfl (by kernel_rfl) (by kernel_rfl) (by kernel_rfl) (by kernel_rfl) (by kernel_rfl) (fun _ _ _ h => h) hC (.inl ⟨by rfl, fun _ _ => ?_⟩) ?_
        rotate_left 1
        · go_simp
          try with_reducible rfl
        simp only [Act.put, List.getElem_toArray, List.getElem_cons_succ, List.getElem_cons_zero, List.setIfInBounds_toArray, List.set_cons_zero, List.set_cons_succ]
        refine anyT_take0 (i := 33) (v := ?_) rfl (by kernel_rfl) (by kernel_rfl) (by kernel_rfl) (by kernel_rfl) (by kernel_rfl) (fun _ _ _ h => h) hC (.inl ⟨by rfl, fun _ _ => ?_⟩) ?_
        rotate_left 1
        · go_simp
          try with_reducible rfl
        simp only [Act.put, List.getElem_toArray, List.getElem_cons_succ, List.getElem_cons_zero, List.setIfInBounds_toArray, List.set_cons_zero, List.set_cons_succ]
        refine anyT_tail (k := 34) (by rfl) (by kernel_rfl) (by simp) rfl rfl (by kernel_rfl) ?_
        have hz : (16777216 * (A0.toNat : Int) + 65536 * (A1.toNat : Int) + 256 * (A2.toNat : Int) + (A3.toNat : Int)) = (X.toNat : Int) := by have := HN.out; omega
        have HZ := Lib.hid hz
        clear hz
        obtain ⟨xv, w6, hrun, ho2, hk6, -⟩ := run_append_ints (ty := 56) ((ho.keeps ((Keeps.refl (fun _ => False) wr).drew) (fun _ _ h => h)).keeps ((Keeps.refl (fun _ => False) wr.drew).alloc (.cells #[.int .i64 (16777216 * (A0.toNat : Int) + 65536 * (A1.toNat : Int) + 256 * (A2.toNat : Int) + (A3.toNat : Int))] 3)) (fun _ _ h => h)) (ZAt.lit wr.drew _ [(16777216 * (A0.toNat : Int) + 65536 * (A1.toNat : Int) + 256 * (A2.toNat : Int) + (A3.toNat : Int))] 1 3 rfl rfl (by omega)) (by rw [zs_length, wlist_length]; simp; omega) (((hkw.drew).alloc _).size)
        have HR := Lib.hid hrun
        have hu4 : ∀ b, u4.ownBlock = some b → w.heap.size ≤ b := fun b hb => (ho.block b hb).1
        clear hrun p0 p1 p2 p3 a0 a1 a2 a3 m0 m1 m2 s1 s2 s3 hC c0 c1 c2 c3 ho
        go_wp2_with (at_builtin; refine Lib.wpList_append_run _ rfl _ _ _ _ rfl _ _ rfl rfl _ _ HR.out ?_)
        go_roundw
        case rel =>
          rw [zs_one X _ HZ.out, ← zs_append, ← HX.out] at ho2
          exact ⟨k + 1, by omega, by go_num, ho2, ((hkw.drew).alloc _).from hk6 hu4⟩
        case measure => simp [intOf]; omega
      · obtain ⟨a16, e16⟩ : ∃ a, a + 16 = k := ⟨k - 16, by omega⟩
        obtain ⟨a15, e15⟩ : ∃ a, a + 15 = k := ⟨k - 15, by omega⟩
        obtain ⟨a7, e7⟩ : ∃ a, a + 7 = k := ⟨k - 7, by omega⟩
        obtain ⟨a2, e2⟩ : ∃ a, a + 2 = k := ⟨k - 2, by omega⟩
        have h16' : (16 : Int) ≤ (k : Int) := by omega
        have hlen : (zs (wlist l k)).length = k := by rw [zs_length, wlist_length]
        obtain ⟨g, o4, c4, rfl, hc4, hm4, hg4⟩ := ho.place (by omega)
        have hn := zw_high l k a16 a15 a7 a2 e16 e15 e7 e2
        have d16 := (ho.at a16 (by omega)).1
        have d15 := (ho.at a15 (by omega)).1
        have d7 := (ho.at a7 (by omega)).1
        have d2 := (ho.at a2 (by omega)).1
        rw [zs_get] at d16 d15 d7 d2
        obtain ⟨X16, hX16⟩ : ∃ A, (wlist l k).getD a16 0 = A := ⟨_, rfl⟩
        obtain ⟨X15, hX15⟩ : ∃ A, (wlist l k).getD a15 0 = A := ⟨_, rfl⟩
        obtain ⟨X7, hX7⟩ : ∃ A, (wlist l k).getD a7 0 = A := ⟨_, rfl⟩
        obtain ⟨X2, hX2⟩ : ∃ A, (wlist l k).getD a2 0 = A := ⟨_, rfl⟩
        rw [hX16, hX15, hX7, hX2] at hn
        rw [hX16] at d16
        rw [hX15] at d15
        rw [hX7] at d7
        rw [hX2] at d2
        have f16 : (k : Int) - 16 = (a16 : Int) := by omega
        have f15 : (k : Int) - 15 = (a15 : Int) := by omega
        have f7 : (k : Int) - 7 = (a7 : Int) := by omega
        have f2 : (k : Int) - 2 = (a2 : Int) := by omega
        have l16 : (a16 : Int) < (k : Int) := by omega
        have l15 : (a15 : Int) < (k : Int) := by omega
        have l7 : (a7 : Int) < (k : Int) := by omega
        have l2 : (a2 : Int) < (k : Int) := by omega
        rw [hlen] at hc4 ⊢
        simp only [maxLen] at hm4
        have HN := Lib.hid hn
        have HO := Lib.hid ho
        clear hn hX16 hX15 hX7 hX2 e16 e15 e7 e2 hlen ho hcell'
        have q1 := m_shr X15 3 8 (by decide)
        have q2 := m_shr X2 10 1024 (by decide)
        have x1 := i_xor (rotr X15 7) (rotr X15 18)
        have x2 := i_xor (rotr X15 7 ^^^ rotr X15 18) (shrN X15 3)
        have x3 := i_xor (rotr X2 17) (rotr X2 19)
        have x4 := i_xor (rotr X2 17 ^^^ rotr X2 19) (shrN X2 10)
        have tn1 := fun w => turn_k X15 7 w (by omega) (by omega)
        have tn2 := fun w => turn_k X15 18 w (by omega) (by omega)
        have tn3 := fun w => turn_k X2 17 w (by omega) (by omega)
        have tn4 := fun w => turn_k X2 19 w (by omega) (by omega)
        have hn := HN.out
        generalize rotr X15 7 = r7 at *
        generalize rotr X15 18 = r18 at *
        generalize shrN X15 3 = s3 at *
        generalize rotr X2 17 = r17 at *
        generalize rotr X2 19 = r19 at *
        generalize shrN X2 10 = s10 at *
        generalize r7 ^^^ r18 = m7 at *
        generalize r17 ^^^ r19 = m17 at *
        generalize m7 ^^^ s3 = S0 at *
        generalize m17 ^^^ s10 = S1 at *
        have v1 := wrap64_u32 s3
        have v2 := wrap64_u32 s10
        have hn2 : ((X16.toNat : Int) + (S0.toNat : Int) + (X7.toNat : Int) + (S1.toNat : Int)) % 4294967296 = ((wnext l (wlist l k)).toNat : Int) := by
          rw [hn]
          simp only [UInt32.toNat_add]
          omega
        have HN2 := Lib.hid hn2
        clear hn hn2 HN
        go_wp2_with fail
        refine (tn1 _).mono ?_
        rintro e w1 ⟨rfl, hk1⟩
        go_wp2_with fail
        refine (tn2 _).mono ?_
        rintro e w2 ⟨rfl, hk2⟩
        have hk3 := hk1.trans hk2 (fun _ _ h => h)
        have d2' := hk3.cell d2 (fun h => h)
        clear hk1 hk2 d15 d2
        go_wp2_with fail
        refine (tn3 _).mono ?_
        rintro e w4 ⟨rfl, hk4⟩
        go_wp2_with fail
        refine (tn4 _).mono ?_
        rintro e w5 ⟨rfl, hk5⟩
        have hk6 := (hk3.trans hk4 (fun _ _ h => h)).trans hk5 (fun _ _ h => h)
        have hkw5 := hkw.trans hk6 (fun _ _ h => h)
        have ho5 := HO.out.keeps hk6 (fun _ _ h => h)
        have e16 := hk6.cell d16 (fun h => h)
        have e7 := hk6.cell d7 (fun h => h)
        clear hk4 hk5 hk3 hk6 d2' d16 d7 hkw
        go_wp2_with fail
        clear x1 x2 x3 x4 q1 q2 v1 v2 tn1 tn2 tn3 tn4
        have b16 := u32_lt X16
        have b7 := u32_lt X7
        have bs0 := u32_lt S0
        have bs1 := u32_lt S1
        have s1 := i64_fit ((X16.toNat : Int) + (S0.toNat : Int)) (by omega) (by omega)
        have s2 := i64_fit ((X16.toNat : Int) + (S0.toNat : Int) + (X7.toNat : Int)) (by omega) (by omega)
        have s3 := i64_fit ((X16.toNat : Int) + (S0.toNat : Int) + (X7.toNat : Int) + (S1.toNat : Int)) (by omega) (by omega)
        have s4 := i64_fit ((k : Int) - 16) (by omega) (by omega)
        have s5 := i64_fit ((k : Int) - 7) (by omega) (by omega)
        have s6 := i64_fit (a16 : Int) (by omega) (by omega)
        have s7 := i64_fit (a7 : Int) (by omega) (by omega)
        obtain ⟨Z, hZ⟩ : ∃ Z, wnext l (wlist l k) = Z := ⟨_, rfl⟩
        have hz := HN2.out
        rw [hZ] at hz
        rw [← Int.tmod_eq_emod_of_nonneg (by omega)] at hz
        have bz := u32_lt Z
        have s8 := i64_fit (Z.toNat : Int) (by omega) (by omega)
        have HZ := Lib.hid hZ
        clear b16 b7 bs0 bs1 hZ HN2 bz
        refine region_T [17] (fun w' => w'.cell? ⟨g, o4 + a16, none⟩ = some (.int .i64 (X16.toNat : Int)) ∧ w'.cell? ⟨g, o4 + a7, none⟩ = some (.int .i64 (X7.toNat : Int))) (by kernel_rfl) ?_
        have hC : (fun w' : World => w'.cell? ⟨g, o4 + a16, none⟩ = some (.int .i64 (X16.toNat : Int)) ∧ w'.cell? ⟨g, o4 + a7, none⟩ = some (.int .i64 (X7.toNat : Int))) w5.drew := ⟨e16, e7⟩
        refine anyT_take0 (i := 0) (v := ?_) rfl (by kernel_rfl) (by kernel_rfl) (by kernel_rfl) (by kernel_rfl) (by kernel_rfl) (fun _ _ _ h => h) hC (.inl ⟨by rfl, fun _ _ => ?_⟩) ?_
        rotate_left 1
        · go_simp
          try with_reducible rfl
        simp only [Act.put, List.getElem_toArray, List.getElem_cons_succ, List.getElem_cons_zero, List.setIfInBounds_toArray, List.set_cons_zero, List.set_cons_succ]
        refine anyT_take0 (i := 1) (v := ?_) rfl (by kernel_rfl) (by kernel_rfl) (by kernel_rfl) (by kernel_rfl) (by kernel_rfl) (fun _ _ _ h => h) hC (.inl ⟨by rfl, fun _ _ => ?_⟩) ?_
        rotate_left 1
        · go_simp
          try with_reducible rfl
        simp only [Act.put, List.getElem_toArray, List.getElem_cons_succ, List.getElem_cons_zero, List.setIfInBounds_toArray, List.set_cons_zero, List.set_cons_succ]
        refine anyT_take0 (i := 2) (v := ?_) rfl (by kernel_rfl) (by kernel_rfl) (by kernel_rfl) (by kernel_rfl) (by kernel_rfl) (fun _ _ _ h => h) hC (.inl ⟨by rfl, fun _ _ => ?_⟩) ?_
        rotate_left 1
        · go_simp
          try with_reducible rfl
        simp only [Act.put, List.getElem_toArray, List.getElem_cons_succ, List.getElem_cons_zero, List.setIfInBounds_toArray, List.set_cons_zero, List.set_cons_succ]
        refine anyT_take0 (i := 3) (v := ?_) rfl (by kernel_rfl) (by kernel_rfl) (by kernel_rfl) (by kernel_rfl) (by kernel_rfl) (fun _ _ _ h => h) hC (.inl ⟨by rfl, fun _ _ => ?_⟩) ?_
        rotate_left 1
        · go_simp
          try with_reducible rfl
        simp only [Act.put, List.getElem_toArray, List.getElem_cons_succ, List.getElem_cons_zero, List.setIfInBounds_toArray, List.set_cons_zero, List.set_cons_succ]
        refine anyT_take0 (i := 4) (v := ?_) rfl (by kernel_rfl) (by kernel_rfl) (by kernel_rfl) (by kernel_rfl) (by kernel_rfl) (fun _ _ _ h => h) hC (.inl ⟨by rfl, fun _ _ => ?_⟩) ?_
        rotate_left 1
        · go_simp
          try with_reducible rfl
        simp only [Act.put, List.getElem_toArray, List.getElem_cons_succ, List.getElem_cons_zero, List.setIfInBounds_toArray, List.set_cons_zero, List.set_cons_succ]
        refine anyT_takeW (i := 5) (v := ?_) rfl (by kernel_rfl) (by kernel_rfl) (by kernel_rfl) (by kernel_rfl) (by kernel_rfl) (by kernel_rfl) (fun _ _ _ h => h) hC (.inl ⟨by rfl, fun w hCw => ?_⟩) ?_
        rotate_left 1
        · dsimp only at hCw
          go_simp
          try with_reducible rfl
        simp only [Act.put, List.getElem_toArray, List.getElem_cons_succ, List.getElem_cons_zero, List.setIfInBounds_toArray, List.set_cons_zero, List.set_cons_succ]
        refine anyT_take0 (i := 6) (v := ?_) rfl (by kernel_rfl) (by kernel_rfl) (by kernel_rfl) (by kernel_rfl) (by kernel_rfl) (fun _ _ _ h => h) hC (.inl ⟨by rfl, fun _ _ => ?_⟩) ?_
        rotate_left 1
        · go_simp
          try with_reducible rfl
        simp only [Act.put, List.getElem_toArray, List.getElem_cons_succ, List.getElem_cons_zero, List.setIfInBounds_toArray, List.set_cons_zero, List.set_cons_succ]
        refine anyT_take0 (i := 7) (v := ?_) rfl (by kernel_rfl) (by kernel_rfl) (by kernel_rfl) (by kernel_rfl) (by kernel_rfl) (fun _ _ _ h => h) hC (.inl ⟨by rfl, fun _ _ => ?_⟩) ?_
        rotate_left 1
        · go_simp
          try with_reducible rfl
        simp only [Act.put, List.getElem_toArray, List.getElem_cons_succ, List.getElem_cons_zero, List.setIfInBounds_toArray, List.set_cons_zero, List.set_cons_succ]
        refine anyT_take0 (i := 8) (v := ?_) rfl (by kernel_rfl) (by kernel_rfl) (by kernel_rfl) (by kernel_rfl) (by kernel_rfl) (fun _ _ _ h => h) hC (.inl ⟨by rfl, fun _ _ => ?_⟩) ?_
        rotate_left 1
        · go_simp
          try with_reducible rfl
        simp only [Act.put, List.getElem_toArray, List.getElem_cons_succ, List.getElem_cons_zero, List.setIfInBounds_toArray, List.set_cons_zero, List.set_cons_succ]
        refine anyT_take0 (i := 9) (v := ?_) rfl (by kernel_rfl) (by kernel_rfl) (by kernel_rfl) (by kernel_rfl) (by kernel_rfl) (fun _ _ _ h => h) hC (.inl ⟨by rfl, fun _ _ => ?_⟩) ?_
        rotate_left 1
        · go_simp
          try with_reducible rfl
        simp only [Act.put, List.getElem_toArray, List.getElem_cons_succ, List.getElem_cons_zero, List.setIfInBounds_toArray, List.set_cons_zero, List.set_cons_succ]
        refine anyT_take0 (i := 10) (v := ?_) rfl (by kernel_rfl) (by kernel_rfl) (by kernel_rfl) (by kernel_rfl) (by kernel_rfl) (fun _ _ _ h => h) hC (.inl ⟨by rfl, fun _ _ => ?_⟩) ?_
        rotate_left 1
        · go_simp
          try with_reducible rfl
        simp only [Act.put, List.getElem_toArray, List.getElem_cons_succ, List.getElem_cons_zero, List.setIfInBounds_toArray, List.set_cons_zero, List.set_cons_succ]
        refine anyT_take0 (i := 11) (v := ?_) rfl (by kernel_rfl) (by kernel_rfl) (by kernel_rfl) (by kernel_rfl) (by kernel_rfl) (fun _ _ _ h => h) hC (.inl ⟨by rfl, fun _ _ => ?_⟩) ?_
        rotate_left 1
        · go_simp
          try with_reducible rfl
        simp only [Act.put, List.getElem_toArray, List.getElem_cons_succ, List.getElem_cons_zero, List.setIfInBounds_toArray, List.set_cons_zero, List.set_cons_succ]
        refine anyT_takeW (i := 12) (v := ?_) rfl (by kernel_rfl) (by kernel_rfl) (by kernel_rfl) (by kernel_rfl) (by kernel_rfl) (by kernel_rfl) (fun _ _ _ h => h) hC (.inl ⟨by rfl, fun w hCw => ?_⟩) ?_
        rotate_left 1
        · dsimp only at hCw
          go_simp
          try with_reducible rfl
        simp only [Act.put, List.getElem_toArray, List.getElem_cons_succ, List.getElem_cons_zero, List.setIfInBounds_toArray, List.set_cons_zero, List.set_cons_succ]
        refine anyT_take0 (i := 13) (v := ?_) rfl (by kernel_rfl) (by kernel_rfl) (by kernel_rfl) (by kernel_rfl) (by kernel_rfl) (fun _ _ _ h => h) hC (.inl ⟨by rfl, fun _ _ => ?_⟩) ?_
        rotate_left 1
        · go_simp
          try with_reducible rfl
        simp only [Act.put, List.getElem_toArray, List.getElem_cons_succ, List.getElem_cons_zero, List.setIfInBounds_toArray, List.set_cons_zero, List.set_cons_succ]
        refine anyT_take0 (i := 14) (v := ?_) rfl (by kernel_rfl) (by kernel_rfl) (by kernel_rfl) (by kernel_rfl) (by kernel_rfl) (fun _ _ _ h => h) hC (.inl ⟨by rfl, fun _ _ => ?_⟩) ?_
        rotate_left 1
        · go_simp
          try with_reducible rfl
        simp only [Act.put, List.getElem_toArray, List.getElem_cons_succ, List.getElem_cons_zero, List.setIfInBounds_toArray, List.set_cons_zero, List.set_cons_succ]
        refine anyT_take0 (i := 15) (v := ?_) rfl (by kernel_rfl) (by kernel_rfl) (by kernel_rfl) (by kernel_rfl) (by kernel_rfl) (fun _ _ _ h => h) hC (.inl ⟨by rfl, fun _ _ => ?_⟩) ?_
        rotate_left 1
        · go_simp
          try with_reducible rfl
        simp only [Act.put, List.getElem_toArray, List.getElem_cons_succ, List.getElem_cons_zero, List.setIfInBounds_toArray, List.set_cons_zero, List.set_cons_succ]
        refine anyT_take0 (i := 16) (v := ?_) rfl (by kernel_rfl) (by kernel_rfl) (by kernel_rfl) (by kernel_rfl) (by kernel_rfl) (fun _ _ _ h => h) hC (.inl ⟨by rfl, fun _ _ => ?_⟩) ?_
        rotate_left 1
        · go_simp
          try with_reducible rfl
        simp only [Act.put, List.getElem_toArray, List.getElem_cons_succ, List.getElem_cons_zero, List.setIfInBounds_toArray, List.set_cons_zero, List.set_cons_succ]
        refine anyT_tail (k := 17) (by rfl) (by kernel_rfl) (by simp) rfl rfl (by kernel_rfl) ?_
        obtain ⟨xv, w6, hrun, ho2, hk6, -⟩ := run_append_ints (ty := 56) ((ho5.keeps ((Keeps.refl (fun _ => False) w5).drew) (fun _ _ h => h)).keeps ((Keeps.refl (fun _ => False) w5.drew).alloc (.cells #[.int .i64 (Z.toNat : Int)] 3)) (fun _ _ h => h)) (ZAt.lit w5.drew _ [(Z.toNat : Int)] 1 3 rfl rfl (by omega)) (by rw [zs_length, wlist_length]; simp; omega) (((hkw5.drew).alloc _).size)
        rw [show (zs (wlist l k)).length = k from by rw [zs_length, wlist_length]] at hrun hk6
        have HR := Lib.hid hrun
        clear hrun hz hC e16 e7 ho5 s1 s2 s3 s4 s5 s6 s7 s8
        go_wp2_with (at_builtin; refine Lib.wpList_append_run _ rfl _ _ _ _ rfl _ _ rfl rfl _ _ HR.out ?_)
        go_roundw
        case rel =>
          rw [zs_one Z _ rfl, ← zs_append, ← HZ.out] at ho2
          exact ⟨k + 1, by omega, by go_num, ho2, ((hkw5.drew).alloc _).from hk6 (fun b' hb' => by
            have e : g = b' := by simpa [Value.ownBlock] using hb'
            rw [← e]
            exact hg4)⟩
        case measure => simp [intOf]; omega
    · have hk64 : k = 64 := by omega
      have hk64' : (64 : Int) ≤ (k : Int) := by omega
      rw [hk64] at ho
      clear hk64
      go_wp2
      go_ret2
      exact ⟨_, rfl, ho, hkw⟩
end Go.Proofs.YtkcnllbfinjaiaaDoor
