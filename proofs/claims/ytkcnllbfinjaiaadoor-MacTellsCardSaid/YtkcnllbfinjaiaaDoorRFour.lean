/- redoubtref01.Four; redoubtref11.with. -/
import Derived.Test.YtkcnllbfinjaiaaDoorNum
import Derived.Test.YtkcnllbfinjaiaaDoorOf
namespace Go.Proofs.YtkcnllbfinjaiaaDoor
open Go.RowKit

theorem BOwn.lit (w : World) (cs : Array Value) (l : List UInt8) (n B : Nat) (h : cs = (bcells l).toArray) (hn : l.length = n) (hm : n ≤ 1099511627776) (hB : B ≤ w.heap.size) : BOwn (w.alloc (.cells cs 5)) B (.slice (some ⟨w.heap.size, 0, none⟩) n n) l := by
  subst h hn
  refine ⟨by simp [bcells], bcells_one _, .inr ⟨w.heap.size, 0, l.length, _, hB, rfl, Nat.le_refl _, by simp only [maxLen]; omega, RowAt.new w _ _, by simp [bcells], fun j hj => by rw [Nat.zero_add, List.getElem?_toArray]⟩⟩

set_option maxRecDepth 100000 in
set_option maxHeartbeats 2000000 in
theorem four_any (x : UInt32) (w : World) : Calls Tryd.prog 27 #[.int .i64 x.toNat] w (Gives (b4 x) w) := by
  have hx := u32_lt x
  have h0 : (0 : Int) ≤ (x.toNat : Int) := by omega
  have hc := b4_cells x
  have e1 : ((x.toNat : Int) / 16777216 % 256) = ((x.toNat : Int) / 16777216) := by omega
  rw [e1] at hc
  have HC := Lib.hid hc
  clear hc e1
  go_enter Tryd.func27, Tryd.ntmps27
  go_wp2
  go_ret
  exact ⟨_, rfl, BOwn.lit w _ (b4 x) 4 _ HC.out rfl (by omega) (Nat.le_refl _), (Keeps.refl _ _).alloc _⟩

/-- The row so far. -/
def wrow (L : List UInt8) (x : UInt8) (k : Nat) : List UInt8 := (withL L x).take k ++ List.replicate (64 - k) 0
theorem wrow_len (L : List UInt8) (x : UInt8) (k : Nat) (hk : k ≤ 64) (hl : L.length = 64) : (wrow L x k).length = 64 := by
  simp [wrow, withL]
  omega
theorem wrow_step (L : List UInt8) (x : UInt8) (k : Nat) (hk : k < 64) (hl : L.length = 64) : (wrow L x k).set k (L.getD k 0 ^^^ x) = wrow L x (k + 1) := by
  have hwl : (withL L x).length = 64 := by simp [withL, hl]
  have hget : (withL L x)[k]'(by omega) = L.getD k 0 ^^^ x := by
    simp only [withL, List.getElem_map]
    simp [show k < L.length by omega]
  unfold wrow
  rw [List.set_append_right _ _ (by rw [List.length_take]; omega), List.length_take, show k - min k (withL L x).length = 0 by omega, show 64 - k = (64 - (k + 1)) + 1 by omega,
    List.replicate_succ, List.set_cons_zero, List.take_succ_eq_append_getElem (by omega), List.append_assoc, hget]
  rfl
theorem wrow_full (L : List UInt8) (x : UInt8) (hl : L.length = 64) : wrow L x 64 = withL L x := by
  unfold wrow
  rw [List.take_of_length_le (by simp [withL, hl]), Nat.sub_self]
  simp
theorem wrow_none (L : List UInt8) (x : UInt8) : wrow L x 0 = List.replicate 64 0 := rfl

set_option maxRecDepth 100000 in
set_option maxHeartbeats 2000000 in
theorem rwith_any (v : Value) (key : List UInt8) (x : UInt8) (w : World) (h : BRd w v key) (hl : key.length ≤ 64) :
    Calls Tryd.prog 22 #[v, .int .u8 (x.toNat : Int)] w (Gives (withL (key ++ List.replicate (64 - key.length) 0) x) w) := by
  obtain ⟨a, c, rfl, hc, hm⟩ := h.slice
  have hL : (key ++ List.replicate (64 - key.length) (0 : UInt8)).length = 64 := by simp; omega
  obtain ⟨L, hLe⟩ : ∃ L, key ++ List.replicate (64 - key.length) (0 : UInt8) = L := ⟨_, rfl⟩
  rw [hLe] at hL ⊢
  have HL := Lib.hid hL
  have HE := Lib.hid hLe
  clear hL hLe
  simp only [maxLen] at hm
  have hl' : (key.length : Int) ≤ 64 := by omega
  go_enter Tryd.func22, Tryd.ntmps22
  go_wp2_with (at_make; (refine wpList_make_bytes rfl (.const (.int .i64 64)) (.const (.int .i64 64)) rfl w.heap.size _ _ 64 64 rfl rfl rfl rfl (by omega) (by omega) (Nat.le_refl _) (fun w1 h1 hk1 => ?_)))
  go_loopw [6] (fun u6 wr => ∃ k : Nat, k ≤ 64 ∧ u6 = .int .i64 k ∧ BOwn wr w.heap.size (.slice (some ⟨w.heap.size, 0, none⟩) 64 64) (wrow L x k) ∧ Keeps (fun _ => False) w wr) (fun u6 _ => 64 - (intOf u6).toNat)
  case atStart => exact ⟨0, by omega, rfl, h1, hk1⟩
  case round =>
    obtain ⟨k, hk, rfl, ho, hkw⟩ := hrel
    by_cases hlt : k < 64
    · have hlt' : (k : Int) < 64 := by omega
      have hst := wrow_step L x k hlt HL.out
      obtain ⟨t1, t2, t3⟩ := ho.at k (by rw [wrow_len L x k hk HL.out]; exact hlt)
      rw [Nat.zero_add] at t1 t2 t3
      by_cases hin : k < key.length
      · have hin' : (k : Int) < (key.length : Int) := by omega
        obtain ⟨b, off, c', e, -, -, hb, hcell⟩ := BAt.get h (by omega)
        simp only [Value.slice.injEq] at e
        obtain ⟨rfl, -, rfl⟩ := e
        have hx0 := hkw.cell (hcell k hin) (fun h => h)
        have hg : L.getD k 0 = key[k] := by rw [← HE.out]; simp [List.getElem?_append_left hin, hin]
        obtain ⟨y, hy⟩ : ∃ y, key[k] = y := ⟨_, rfl⟩
        rw [hy] at hx0 hg
        have hxor : bits .xor .u8 (x.toNat : Int) (y.toNat : Int) = ((L.getD k 0 ^^^ x).toNat : Int) := by
          rw [hg, UInt8.xor_comm]
          have e8 := u8_xor_nat x.toNat y.toNat (by have := x.toNat_lt; omega) (by have := y.toNat_lt; omega)
          rw [e8, UInt8.toNat_xor]
        obtain ⟨Z, hZ⟩ : ∃ Z, L.getD k 0 ^^^ x = Z := ⟨_, rfl⟩
        rw [hZ] at hxor hst
        have u1 := t3 x
        obtain ⟨-, v2, v3⟩ := u1.at k (by rw [List.length_set, wrow_len L x k hk HL.out]; exact hlt)
        rw [Nat.zero_add] at v2 v3
        have v4 := v3 Z
        rw [List.set_set, hst] at v4
        have HV := Lib.hid v4
        have hx1 := (Keeps.setCell (S := (· = w.heap.size)) (Keeps.refl _ wr) ⟨w.heap.size, k, none⟩ (.int .u8 (x.toNat : Int)) (.inl rfl)).cell hx0 (fun e => by simp only at e; omega)
        clear v3 v4 t3 hst hZ hy hg hcell u1
        go_wp2
        go_roundw
        case rel => exact ⟨k + 1, by omega, by go_num, HV.out, (hkw.setCell _ _ (.inr (by simp))).setCell _ _ (.inr (by simp))⟩
        case measure => simp [intOf]; omega
      · have hin' : (key.length : Int) ≤ (k : Int) := by omega
        have hg : L.getD k 0 = 0 := by
          rw [← HE.out, List.getD_eq_getElem?_getD, List.getElem?_append_right (by omega), List.getElem?_replicate]
          split <;> rfl
        have t4 := t3 x
        rw [hg, UInt8.zero_xor] at hst
        rw [hst] at t4
        have HV := Lib.hid t4
        clear t3 t4 hst hg
        go_wp2
        go_roundw
        case rel => exact ⟨k + 1, by omega, by go_num, HV.out, hkw.setCell _ _ (.inr (by simp))⟩
        case measure => simp [intOf]; omega
    · have hk64 : k = 64 := by omega
      have hk64' : (64 : Int) ≤ (k : Int) := by omega
      rw [hk64, wrow_full L x HL.out] at ho
      clear hk64
      go_wp2
      go_ret
      exact ⟨_, rfl, ho, hkw⟩
end Go.Proofs.YtkcnllbfinjaiaaDoor
