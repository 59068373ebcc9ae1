/- Words, walks and plain laws that the claim leans on, part 17. -/
import Derived.Test.YtekaoknpjpbjgaaDoorM4
import Derived.Test.YtekaoknpjpbjgaaDoorM5
import Derived.Test.YtekaoknpjpbjgaaDoorM6
import Derived.Test.YtekaoknpjpbjgaaDoorM8
import Derived.Test.YtekaoknpjpbjgaaDoorM13
import Derived.Test.YtekaoknpjpbjgaaDoorM16

/-! The program's AES: a block with keys, its rows, its columns. -/
namespace Go.Proofs.YtekaoknpjpbjgaaDoor
set_option linter.unusedVariables false
set_option linter.unusedSimpArgs false
open Go.RowKit

/-- Of sixteen bytes the first k are new. -/
def upd (f g : Nat → UInt8) (k : Nat) : List UInt8 := (List.range 16).map fun i => if i < k then f i else g i
theorem upd_len (f g : Nat → UInt8) (k : Nat) : (upd f g k).length = 16 := by simp [upd]
theorem upd_at (f g : Nat → UInt8) (k i : Nat) (hi : i < 16) : at8 (upd f g k) i = if i < k then f i else g i := by
  simp [at8, upd, hi]
theorem upd_set (f g : Nat → UInt8) (k : Nat) : (upd f g k).set k (f k) = upd f g (k + 1) := by
  refine List.ext_getElem (by simp [upd]) fun i h1 h2 => ?_
  rw [List.getElem_set]
  have h3 : i < 16 := by simpa [upd] using h2
  by_cases hik : k = i
  · subst hik
    simp [upd]
  · rw [if_neg hik]
    simp only [upd, List.getElem_map, List.getElem_range]
    have : i < k ↔ i < k + 1 := by omega
    simp only [this]
theorem upd_zero (f g : Nat → UInt8) : upd f g 0 = (List.range 16).map g := by simp [upd]
theorem upd_full (f g : Nat → UInt8) : upd f g 16 = (List.range 16).map f := by
  refine List.map_congr_left fun i hi => ?_
  rw [if_pos (List.mem_range.1 hi)]
theorem self16 (b : List UInt8) (h : b.length = 16) : b = (List.range 16).map (at8 b) := by
  refine List.ext_getElem (by simp [h]) fun i h1 h2 => ?_
  simp [at8, h1]
theorem zero16 : (List.range 16).map (fun _ => (0 : UInt8)) = List.replicate 16 0 := by decide
theorem BAt.at8 {w : World} {p : Nat → Prop} {v : Value} {l : List UInt8} (h : BAt w p v l) (h0 : 0 < l.length) :
    ∃ b off c, v = .slice (some ⟨b, off, none⟩) l.length c ∧ l.length ≤ c ∧ c ≤ maxLen ∧ p b ∧ ∀ i, i < l.length → w.cell? ⟨b, off + i, none⟩ = some (.int .u8 ((YtekaoknpjpbjgaaDoor.at8 l i).toNat : Int)) := by
  obtain ⟨b, off, c, h1, h2, h3, h4, h5⟩ := h.get h0
  refine ⟨b, off, c, h1, h2, h3, h4, fun i hi => ?_⟩
  rw [h5 i hi]
  unfold YtekaoknpjpbjgaaDoor.at8
  rw [List.getD_eq_getElem?_getD, List.getElem?_eq_getElem hi]
  rfl
set_option maxRecDepth 100000 in
theorem with_any8 (b keys : List UInt8) (kv : Value) (w : World) (hb : b.length = 16) (hk : BRd w kv keys) (hkl : 16 ≤ keys.length) (hkm : keys.length ≤ 1000000) :
    Calls Tryd.prog 81 #[.agg (bcells b).toArray, kv] w fun e w' => e = .returned (.agg (bcells (withF b keys)).toArray) ∧ Keeps (fun _ => False) w w' := by
  obtain ⟨kb, ko, kc, rfl, hkc, hkm2, hkb, hkcell⟩ := BAt.at8 hk (by omega)
  have hself := Lib.hid (self16 b hb)
  have HKC := Lib.hid hkcell
  clear hkcell hk
  go_enter Tryd.func81, Tryd.ntmps81
  go_wp2
  have h0 : ARow ((w.alloc (.cells (bcells b).toArray 113)).alloc (.cells (bcells (List.replicate 16 0)).toArray 113)) w.heap.size b 113 := (ARow.new w _ _).alloc _
  have h1 := ARow.new (w.alloc (.cells (bcells b).toArray 113)) (List.replicate 16 0) 113
  have hsz : (w.alloc (.cells (bcells b).toArray 113)).heap.size = w.heap.size + 1 := Array.size_push _
  rw [hsz] at h1
  have hkw := ((Keeps.refl (fun _ => False) w).alloc (.cells (bcells b).toArray 113)).alloc (.cells (bcells (List.replicate 16 0)).toArray 113)
  generalize hW : (w.alloc (.cells (bcells b).toArray 113)).alloc (.cells (bcells (List.replicate 16 0)).toArray 113) = W at *
  rw [show (w.alloc (Obj.cells (bcells b).toArray 113)).alloc (Obj.cells #[.int .u8 0, .int .u8 0, .int .u8 0, .int .u8 0, .int .u8 0, .int .u8 0, .int .u8 0, .int .u8 0, .int .u8 0, .int .u8 0, .int .u8 0, .int .u8 0, .int .u8 0, .int .u8 0, .int .u8 0, .int .u8 0] 113) = W from hW]
  clear hW hsz
  go_loopw [6] (fun u6 wr => ∃ k : Nat, k ≤ 16 ∧ u6 = .int .i64 k ∧ ARow wr w.heap.size (upd (fun i => at8 b i ^^^ at8 keys i) (at8 b) k) 113 ∧ ARow wr (w.heap.size + 1) (List.replicate 16 0) 113 ∧ Keeps (fun _ => False) w wr) (fun u6 _ => 16 - (intOf u6).toNat)
  case atStart => exact ⟨0, by omega, rfl, by rw [upd_zero, ← hself.out]; exact h0, h1, hkw⟩
  case round =>
    obtain ⟨k, hk16, rfl, h0r, h1r, hkr⟩ := hrel
    clear h0 h1 hkw
    by_cases hlt : k < 16
    · have c0 := h0r.cell k (by rw [upd_len]; omega)
      rw [upd_at _ _ _ _ hlt, if_neg (Nat.lt_irrefl k)] at c0
      have f0 := h0r.frozen k
      have c1 := hkr.cell (HKC.out k (by omega)) (fun h => h)
      have hx := m8_xor (at8 b k) (at8 keys k)
      have h2 := h0r.set k (at8 b k ^^^ at8 keys k)
      rw [upd_set (fun i => at8 b i ^^^ at8 keys i)] at h2
      have h12 := h1r.setOther ⟨w.heap.size, k, none⟩ (.int .u8 ((at8 b k ^^^ at8 keys k).toNat : Int)) (by simp)
      have hk2 := hkr.setCell ⟨w.heap.size, k, none⟩ (.int .u8 ((at8 b k ^^^ at8 keys k).toNat : Int)) (.inr (Nat.le_refl _))
      have H2 := Lib.hid h2
      have H12 := Lib.hid h12
      have HK2 := Lib.hid hk2
      generalize hab : at8 b k ^^^ at8 keys k = ab at *
      generalize at8 b k = a at *
      generalize at8 keys k = c at *
      clear h2 h12 hk2 hab h0r h1r hkr
      go_wp2
      refine region_draws_tail 7 (by kernel_rfl) (by kernel_rfl) ?_
      simp only [List.take_succ_cons, List.take_zero, List.drop_succ_cons, List.drop_zero]
      repeat (go_big_quiet_step (fail))
      refine wpQuiet_nil ?_
      rintro _ ⟨nq, rfl⟩
      go_wp2
      go_roundw
      case rel => exact ⟨k + 1, by omega, by go_num, H2.out.drewN nq, H12.out.drewN nq, HK2.out.drewN nq⟩
      case measure => simp [intOf]; omega
    · obtain rfl : k = 16 := by omega
      rw [upd_full] at h0r
      have hl := withF_len b keys
      have H0 : Hid (ARow wr w.heap.size (withF b keys) 113) := Lib.hid h0r
      have H1 := Lib.hid h1r
      clear h0r h1r
      go_wp2_with (first | (with_reducible refine wpList_load_arr rfl 113 _ rfl rfl (H0.out) 16 (hl) 5 Tryd.underlying113 (by kernel_rfl) ?_) | ((with_reducible refine wpList_store_arr rfl 113 _ _ rfl rfl rfl (withF b keys) rfl (H1.out) 16 List.length_replicate (hl) (by kernel_rfl) ?_); intro w5 hr5 hk5))
      refine bodyPost_ret (v := .agg (bcells (withF b keys)).toArray) (results_arr rfl _ 16 5 rfl hr5 (hl) Tryd.underlying113 (by kernel_rfl)) rfl ⟨rfl, (hkr).from hk5 (fun b e => by omega)⟩
theorem i64_f (x : Int) (h1 : -9223372036854775808 ≤ x) (h2 : x ≤ 9223372036854775807) : IntKind.i64.wrap x = x := by rw [IntKind.wrap_i64]; omega
theorem zero16' : List.replicate 16 (0 : UInt8) = (List.range 16).map (fun _ => 0) := zero16.symm
theorem at8_box (x : UInt8) : at8 boxL x.toNat = sbox x := rfl
set_option maxRecDepth 100000 in
theorem rows_any8 (b : List UInt8) (tb : Nat) (w : World) (hb : b.length = 16) (ht : ARow w tb boxL 95) :
    Calls Tryd.prog 82 #[.agg (bcells b).toArray, .pointer (some ⟨tb, 0, none⟩)] w fun e w' => e = .returned (.agg (bcells (rowsF b)).toArray) ∧ Keeps (fun _ => False) w w' := by
  have HT := Lib.hid ht
  clear ht
  go_enter Tryd.func82, Tryd.ntmps82
  go_wp2
  have h0 : ARow (((w.alloc (.cells (bcells b).toArray 113)).alloc (.cells (bcells (List.replicate 16 0)).toArray 113)).alloc (.cells (bcells (List.replicate 16 0)).toArray 113)) w.heap.size b 113 := ((ARow.new w _ _).alloc _).alloc _
  have h1 := (ARow.new (w.alloc (.cells (bcells b).toArray 113)) (List.replicate 16 0) 113).alloc (.cells (bcells (List.replicate 16 0)).toArray 113)
  have hsz : (w.alloc (.cells (bcells b).toArray 113)).heap.size = w.heap.size + 1 := Array.size_push _
  rw [hsz] at h1
  have h2 := ARow.new ((w.alloc (.cells (bcells b).toArray 113)).alloc (.cells (bcells (List.replicate 16 0)).toArray 113)) (List.replicate 16 0) 113
  have hsz2 : ((w.alloc (.cells (bcells b).toArray 113)).alloc (.cells (bcells (List.replicate 16 0)).toArray 113)).heap.size = w.heap.size + 2 := (Array.size_push _).trans (by rw [hsz])
  rw [hsz2] at h2
  have hkw := (((Keeps.refl (fun _ => False) w).alloc (.cells (bcells b).toArray 113)).alloc (.cells (bcells (List.replicate 16 0)).toArray 113)).alloc (.cells (bcells (List.replicate 16 0)).toArray 113)
  generalize hW : ((w.alloc (.cells (bcells b).toArray 113)).alloc (.cells (bcells (List.replicate 16 0)).toArray 113)).alloc (.cells (bcells (List.replicate 16 0)).toArray 113) = W at *
  rw [show ((w.alloc (Obj.cells (bcells b).toArray 113)).alloc (Obj.cells #[.int .u8 0, .int .u8 0, .int .u8 0, .int .u8 0, .int .u8 0, .int .u8 0, .int .u8 0, .int .u8 0, .int .u8 0, .int .u8 0, .int .u8 0, .int .u8 0, .int .u8 0, .int .u8 0, .int .u8 0, .int .u8 0] 113)).alloc (Obj.cells #[.int .u8 0, .int .u8 0, .int .u8 0, .int .u8 0, .int .u8 0, .int .u8 0, .int .u8 0, .int .u8 0, .int .u8 0, .int .u8 0, .int .u8 0, .int .u8 0, .int .u8 0, .int .u8 0, .int .u8 0, .int .u8 0] 113) = W from hW]
  clear hW hsz hsz2
  go_loopw [7] (fun u7 wr => ∃ k : Nat, k ≤ 16 ∧ u7 = .int .i64 k ∧ ARow wr w.heap.size b 113 ∧ ARow wr (w.heap.size + 1) (List.replicate 16 0) 113 ∧ ARow wr (w.heap.size + 2) (upd (fun i => sbox (at8 b (5 * i % 16))) (fun _ => 0) k) 113 ∧ Keeps (fun _ => False) w wr) (fun u7 _ => 16 - (intOf u7).toNat)
  case atStart => exact ⟨0, by omega, rfl, h0, h1, by rw [upd_zero, zero16]; exact h2, hkw⟩
  case round =>
    obtain ⟨k, hk16, rfl, h0r, h1r, h2r, hkr⟩ := hrel
    clear h0 h1 h2 hkw
    by_cases hlt : k < 16
    · obtain ⟨x, hx⟩ : ∃ x, at8 b (5 * k % 16) = x := ⟨_, rfl⟩
      have c0 := h0r.cell (5 * k % 16) (by omega)
      rw [hx] at c0
      have hxl := m8_lt x
      have c1 := (HT.out.keeps hkr (fun h => h)).cell x.toNat (by rw [boxL_len]; exact hxl)
      rw [at8_box] at c1
      have c2 := h2r.cell k (by rw [upd_len]; omega)
      have f2 := h2r.frozen k
      have s2 := h2r.set k (sbox x)
      have us := upd_set (fun i => sbox (at8 b (5 * i % 16))) (fun _ => 0) k
      simp only [hx] at us
      rw [us] at s2
      have s0 := h0r.setOther ⟨w.heap.size + 2, k, none⟩ (.int .u8 ((sbox x).toNat : Int)) (by simp)
      have s1 := h1r.setOther ⟨w.heap.size + 2, k, none⟩ (.int .u8 ((sbox x).toNat : Int)) (by simp)
      have sk := hkr.setCell ⟨w.heap.size + 2, k, none⟩ (.int .u8 ((sbox x).toNat : Int)) (.inr (by show w.heap.size ≤ w.heap.size + 2; omega))
      have H0 := Lib.hid s0
      have H1 := Lib.hid s1
      have H2 := Lib.hid s2
      have HK2 := Lib.hid sk
      obtain ⟨m, hm⟩ : ∃ m, 5 * k % 16 = m := ⟨_, rfl⟩
      have hm16 : m < 16 := by omega
      have q1 := i64_f (5 * (k : Int)) (by omega) (by omega)
      have q2 : (5 * (k : Int)).tmod 16 = (m : Int) := by rw [Int.tmod_eq_emod_of_nonneg (by omega)]; omega
      have q3 : 5 * (k : Int) % 16 = (m : Int) := by omega
      rw [hm] at c0
      generalize sbox x = y at *
      clear s0 s1 s2 sk us hx hm h0r h1r h2r hkr
      go_wp2
      refine region_draws_tail 10 (by kernel_rfl) (by kernel_rfl) ?_
      simp only [List.take_succ_cons, List.take_zero, List.drop_succ_cons, List.drop_zero]
      repeat (go_big_quiet_step (fail))
      refine wpQuiet_nil ?_
      rintro _ ⟨nq, rfl⟩
      go_wp2
      go_roundw
      case rel => exact ⟨k + 1, by omega, by go_num, H0.out.drewN nq, H1.out.drewN nq, H2.out.drewN nq, HK2.out.drewN nq⟩
      case measure => simp [intOf]; omega
    · obtain rfl : k = 16 := by omega
      rw [upd_full] at h2r
      have hl : (rowsF b).length = 16 := by simp [rowsF]
      have H0 : Hid (ARow wr (w.heap.size + 2) (rowsF b) 113) := Lib.hid h2r
      have H1 := Lib.hid h1r
      clear h0r h1r h2r
      go_wp2_with (first | (with_reducible refine wpList_load_arr rfl 113 _ rfl rfl (H0.out) 16 (hl) 5 Tryd.underlying113 (by kernel_rfl) ?_) | ((with_reducible refine wpList_store_arr rfl 113 _ _ rfl rfl rfl (rowsF b) rfl (H1.out) 16 List.length_replicate (hl) (by kernel_rfl) ?_); intro w5 hr5 hk5))
      refine bodyPost_ret (v := .agg (bcells (rowsF b)).toArray) (results_arr rfl _ 16 5 rfl hr5 (hl) Tryd.underlying113 (by kernel_rfl)) rfl ⟨rfl, (hkr).from hk5 (fun b e => by omega)⟩
def mixAt (b : List UInt8) (i : Nat) : UInt8 :=
  dbl (at8 b i) ^^^ (dbl (at8 b (i / 4 * 4 + (i + 1) % 4)) ^^^ at8 b (i / 4 * 4 + (i + 1) % 4)) ^^^ at8 b (i / 4 * 4 + (i + 2) % 4) ^^^ at8 b (i / 4 * 4 + (i + 3) % 4)
theorem mix_at (b : List UInt8) (c r : Nat) (hc : c % 4 = 0) (hr : r < 4) :
    at8 b (c + r) ^^^ (at8 b c ^^^ at8 b (c + 1) ^^^ at8 b (c + 2) ^^^ at8 b (c + 3)) ^^^ dbl (at8 b (c + r) ^^^ at8 b (c + (r + 1) % 4)) = mixAt b (c + r) := by
  have e1 : (c + r) / 4 * 4 = c := by omega
  have e2 : (c + r + 1) % 4 = (r + 1) % 4 := by omega
  have e3 : (c + r + 2) % 4 = (r + 2) % 4 := by omega
  have e4 : (c + r + 3) % 4 = (r + 3) % 4 := by omega
  unfold mixAt
  rw [e1, e2, e3, e4]
  obtain rfl | rfl | rfl | rfl : r = 0 ∨ r = 1 ∨ r = 2 ∨ r = 3 := by omega
  · exact mix_eq _ _ _ _
  · refine Eq.trans ?_ (mix_eq (at8 b (c + 1)) (at8 b (c + 2)) (at8 b (c + 3)) (at8 b c))
    have e : at8 b c ^^^ at8 b (c + 1) ^^^ at8 b (c + 2) ^^^ at8 b (c + 3) = at8 b (c + 1) ^^^ at8 b (c + 2) ^^^ at8 b (c + 3) ^^^ at8 b c := by ac_rfl
    rw [e] <;> rfl
  · refine Eq.trans ?_ (mix_eq (at8 b (c + 2)) (at8 b (c + 3)) (at8 b c) (at8 b (c + 1)))
    have e : at8 b c ^^^ at8 b (c + 1) ^^^ at8 b (c + 2) ^^^ at8 b (c + 3) = at8 b (c + 2) ^^^ at8 b (c + 3) ^^^ at8 b c ^^^ at8 b (c + 1) := by ac_rfl
    rw [e] <;> rfl
  · refine Eq.trans ?_ (mix_eq (at8 b (c + 3)) (at8 b c) (at8 b (c + 1)) (at8 b (c + 2)))
    have e : at8 b c ^^^ at8 b (c + 1) ^^^ at8 b (c + 2) ^^^ at8 b (c + 3) = at8 b (c + 3) ^^^ at8 b c ^^^ at8 b (c + 1) ^^^ at8 b (c + 2) := by ac_rfl
    rw [e] <;> rfl
set_option maxRecDepth 100000 in
set_option maxHeartbeats 1000000 in
theorem mix_any8 (b : List UInt8) (w : World) (hb : b.length = 16) :
    Calls Tryd.prog 83 #[.agg (bcells b).toArray] w fun e w' => e = .returned (.agg (bcells (mixF b)).toArray) ∧ Keeps (fun _ => False) w w' := by
  go_enter Tryd.func83, Tryd.ntmps83
  go_wp2
  have h0 : ARow (((w.alloc (.cells (bcells b).toArray 113)).alloc (.cells (bcells (List.replicate 16 0)).toArray 113)).alloc (.cells (bcells (List.replicate 16 0)).toArray 113)) w.heap.size b 113 := ((ARow.new w _ _).alloc _).alloc _
  have h1 := (ARow.new (w.alloc (.cells (bcells b).toArray 113)) (List.replicate 16 0) 113).alloc (.cells (bcells (List.replicate 16 0)).toArray 113)
  have hsz : (w.alloc (.cells (bcells b).toArray 113)).heap.size = w.heap.size + 1 := Array.size_push _
  rw [hsz] at h1
  have h2 := ARow.new ((w.alloc (.cells (bcells b).toArray 113)).alloc (.cells (bcells (List.replicate 16 0)).toArray 113)) (List.replicate 16 0) 113
  have hsz2 : ((w.alloc (.cells (bcells b).toArray 113)).alloc (.cells (bcells (List.replicate 16 0)).toArray 113)).heap.size = w.heap.size + 2 := (Array.size_push _).trans (by rw [hsz])
  rw [hsz2] at h2
  have hkw := (((Keeps.refl (fun _ => False) w).alloc (.cells (bcells b).toArray 113)).alloc (.cells (bcells (List.replicate 16 0)).toArray 113)).alloc (.cells (bcells (List.replicate 16 0)).toArray 113)
  generalize hW : ((w.alloc (.cells (bcells b).toArray 113)).alloc (.cells (bcells (List.replicate 16 0)).toArray 113)).alloc (.cells (bcells (List.replicate 16 0)).toArray 113) = W at *
  rw [show ((w.alloc (Obj.cells (bcells b).toArray 113)).alloc (Obj.cells #[.int .u8 0, .int .u8 0, .int .u8 0, .int .u8 0, .int .u8 0, .int .u8 0, .int .u8 0, .int .u8 0, .int .u8 0, .int .u8 0, .int .u8 0, .int .u8 0, .int .u8 0, .int .u8 0, .int .u8 0, .int .u8 0] 113)).alloc (Obj.cells #[.int .u8 0, .int .u8 0, .int .u8 0, .int .u8 0, .int .u8 0, .int .u8 0, .int .u8 0, .int .u8 0, .int .u8 0, .int .u8 0, .int .u8 0, .int .u8 0, .int .u8 0, .int .u8 0, .int .u8 0, .int .u8 0] 113) = W from hW]
  clear hW hsz hsz2
  go_loopw [4] (fun u4 wr => ∃ c : Nat, c ≤ 16 ∧ c % 4 = 0 ∧ u4 = .int .i64 c ∧ ARow wr w.heap.size b 113 ∧ ARow wr (w.heap.size + 1) (List.replicate 16 0) 113 ∧ ARow wr (w.heap.size + 2) (upd (mixAt b) (fun _ => 0) c) 113 ∧ Keeps (fun _ => False) w wr) (fun u4 _ => 16 - (intOf u4).toNat)
  case atStart => exact ⟨0, by omega, rfl, rfl, h0, h1, by rw [upd_zero, zero16]; exact h2, hkw⟩
  case round =>
    obtain ⟨c, hc16, hc4, rfl, h0r, h1r, h2r, hkr⟩ := hrel
    clear h0 h1 h2 hkw
    by_cases hlt : c < 16
    · have hc13 : c ≤ 12 := by omega
      have d0 := h0r.cell c (by omega)
      have d1 := h0r.cell (c + 1) (by omega)
      have d2 := h0r.cell (c + 2) (by omega)
      have d3 := h0r.cell (c + 3) (by omega)
      have x1 := m8_xor (at8 b c) (at8 b (c + 1))
      have x2 := m8_xor (at8 b c ^^^ at8 b (c + 1)) (at8 b (c + 2))
      have x3 := m8_xor (at8 b c ^^^ at8 b (c + 1) ^^^ at8 b (c + 2)) (at8 b (c + 3))
      obtain ⟨al, hal⟩ : ∃ al, at8 b c ^^^ at8 b (c + 1) ^^^ at8 b (c + 2) ^^^ at8 b (c + 3) = al := ⟨_, rfl⟩
      rw [hal] at x3
      have HAL := Lib.hid hal
      have q1 := i64_f ((c : Int) + 1) (by omega) (by omega)
      have q2 := i64_f ((c : Int) + 2) (by omega) (by omega)
      have q3 := i64_f ((c : Int) + 3) (by omega) (by omega)
      have H0 := Lib.hid h0r
      have H1 := Lib.hid h1r
      have H2 := Lib.hid h2r
      have HK := Lib.hid hkr
      generalize at8 b c = b0 at d0 x1 x2 x3
      generalize at8 b (c + 1) = b1 at d1 x1 x2 x3
      generalize at8 b (c + 2) = b2 at d2 x2 x3
      generalize at8 b (c + 3) = b3 at d3 x3
      generalize b0 ^^^ b1 = b01 at x1 x2 x3
      generalize b01 ^^^ b2 = b012 at x2 x3
      clear hal h0r h1r h2r hkr
      go_wp2
      refine region_draws_tail 17 (by kernel_rfl) (by kernel_rfl) ?_
      simp only [List.take_succ_cons, List.take_zero, List.drop_succ_cons, List.drop_zero]
      repeat (go_big_quiet_step (fail))
      refine wpQuiet_nil ?_
      rintro _ ⟨nq, rfl⟩
      go_wp2
      clear d0 d1 d2 d3 x1 x2 x3 q1 q2 q3
      have J0 := H0.out.drewN nq
      have J1 := H1.out.drewN nq
      have J2 := H2.out.drewN nq
      have JK := HK.out.drewN nq
      clear H0 H1 H2 HK
      generalize wr.drewN nq = W2 at *
      go_loopw [29] (fun u29 wx => ∃ r : Nat, r ≤ 4 ∧ u29 = .int .i64 r ∧ ARow wx w.heap.size b 113 ∧ ARow wx (w.heap.size + 1) (List.replicate 16 0) 113 ∧ ARow wx (w.heap.size + 2) (upd (mixAt b) (fun _ => 0) (c + r)) 113 ∧ Keeps (fun _ => False) w wx) (fun u29 _ => 4 - (intOf u29).toNat)
      case atStart => exact ⟨0, by omega, rfl, J0, J1, J2, JK⟩
      case round =>
        obtain ⟨r, hr4, rfl, h0r, h1r, h2r, hkr⟩ := hrel
        clear J0 J1 J2 JK
        by_cases hlt4 : r < 4
        · obtain ⟨m, hm⟩ : ∃ m, (r + 1) % 4 = m := ⟨_, rfl⟩
          have hm4 : m < 4 := by omega
          have ma := mix_at b c r hc4 hlt4
          rw [HAL.out, hm] at ma
          have d0 := h0r.cell (c + r) (by omega)
          have d1 := h0r.cell (c + m) (by omega)
          have c2 := h2r.cell (c + r) (by rw [upd_len]; omega)
          have f2 := h2r.frozen (c + r)
          have s2 := h2r.set (c + r) (mixAt b (c + r))
          rw [upd_set (mixAt b)] at s2
          obtain ⟨y, hy⟩ : ∃ y, mixAt b (c + r) = y := ⟨_, rfl⟩
          rw [hy] at ma s2
          have s0 := h0r.setOther ⟨w.heap.size + 2, c + r, none⟩ (.int .u8 (y.toNat : Int)) (by simp)
          have s1 := h1r.setOther ⟨w.heap.size + 2, c + r, none⟩ (.int .u8 (y.toNat : Int)) (by simp)
          have sk := hkr.setCell ⟨w.heap.size + 2, c + r, none⟩ (.int .u8 (y.toNat : Int)) (.inr (by show w.heap.size ≤ w.heap.size + 2; omega))
          have x1 := m8_xor (at8 b (c + r)) (at8 b (c + m))
          have x2 := m8_xor (at8 b (c + r)) al
          generalize at8 b (c + r) = p at *
          generalize at8 b (c + m) = q at *
          have x3 := m8_xor (p ^^^ al) (dbl (p ^^^ q))
          rw [ma] at x3
          generalize p ^^^ al = pa at *
          have HD := Lib.hid (double_any (p ^^^ q))
          generalize p ^^^ q = pq at *
          generalize dbl pq = dpq at *
          have q1 := i64_f ((c : Int) + (r : Int)) (by omega) (by omega)
          have q2 := i64_f ((r : Int) + 1) (by omega) (by omega)
          have q3 : ((r : Int) + 1).tmod 4 = (m : Int) := by rw [Int.tmod_eq_emod_of_nonneg (by omega)]; omega
          have q4 : ((r : Int) + 1) % 4 = (m : Int) := by omega
          have q5 := i64_f ((c : Int) + (m : Int)) (by omega) (by omega)
          have H0 := Lib.hid s0
          have H1 := Lib.hid s1
          have H2 := Lib.hid s2
          have HK2 := Lib.hid sk
          clear s0 s1 s2 sk hy ma hm h0r h1r h2r hkr
          go_wp2
          refine region_draws_tail 25 (by kernel_rfl) (by kernel_rfl) ?_
          simp only [List.take_succ_cons, List.take_zero, List.drop_succ_cons, List.drop_zero]
          repeat (go_big_quiet_step (with_reducible exact quiet_same (HD.out _)))
          refine wpQuiet_nil ?_
          rintro _ ⟨nq, rfl⟩
          go_wp2
          go_roundw
          case rel => exact ⟨r + 1, by omega, by go_num, H0.out.drewN nq, H1.out.drewN nq, H2.out.drewN nq, HK2.out.drewN nq⟩
          case measure => simp [intOf]; omega
        · obtain rfl : r = 4 := by omega
          have q1 := i64_f ((c : Int) + 4) (by omega) (by omega)
          go_wp2
          go_roundw
          case rel => exact ⟨c + 4, by omega, by omega, by go_num, h0r, h1r, h2r, hkr⟩
          case measure => simp [intOf]; omega
    · obtain rfl : c = 16 := by omega
      rw [upd_full] at h2r
      have hl : (mixF b).length = 16 := by simp [mixF]
      have H0 : Hid (ARow wr (w.heap.size + 2) (mixF b) 113) := Lib.hid h2r
      have H1 := Lib.hid h1r
      clear h0r h1r h2r
      go_wp2_with (first | (with_reducible refine wpList_load_arr rfl 113 _ rfl rfl (H0.out) 16 (hl) 5 Tryd.underlying113 (by kernel_rfl) ?_) | ((with_reducible refine wpList_store_arr rfl 113 _ _ rfl rfl rfl (mixF b) rfl (H1.out) 16 List.length_replicate (hl) (by kernel_rfl) ?_); intro w5 hr5 hk5))
      refine bodyPost_ret (v := .agg (bcells (mixF b)).toArray) (results_arr rfl _ 16 5 rfl hr5 (hl) Tryd.underlying113 (by kernel_rfl)) rfl ⟨rfl, (hkr).from hk5 (fun b e => by omega)⟩
end Go.Proofs.YtekaoknpjpbjgaaDoor

/-! The program's AES: a block under keys. -/
namespace Go.Proofs.YtekaoknpjpbjgaaDoor
set_option linter.unusedVariables false
set_option linter.unusedSimpArgs false
open Go.RowKit

section
variable {P : Program} {ops : Array Oper} {rest : List Oper} {o : Oper} {a : Act} {Q : Exit → Act → World → Prop} {w : World}
theorem run_loadVar_at (w : World) (g off : Nat) (ty : TypeId) (vs : List Value) (d : TypeDesc) (hc : ∀ j v, vs[j]? = some v → w.cell? ⟨g, off + j, none⟩ = some v)
    (hu : P.underlying ty = some d) (hd : (match d with | .struct _ | .array _ _ => true | _ => false) = true) (hi : (P.info? ty).map (·.size) = some vs.length) :
    (loadVar ty ⟨g, off, none⟩).run P w = .ok (.agg vs.toArray) w := by
  have hl : (loadCells ⟨g, off, none⟩ vs.length).run P w = .ok vs.toArray w :=
    run_loadCells_list (P := P) w ⟨g, off, none⟩ vs (fun j v hv => by rw [addr_add]; exact hc j v hv)
  cases hq : P.info? ty with
  | none => simp [hq] at hi
  | some i =>
    have hs : i.size = vs.length := by simpa [hq] using hi
    have hagg : (isAgg ty).run P w = .ok true w := by
      unfold isAgg
      rw [Sem.run_bind, run_underlying hu w]
      cases d <;> simp_all
    simp [loadVar, Sem.run_bind, hagg, sizeOf, typeInfo, hq, hs, hl]
/-- An array is read out of a slice's memory. -/
theorem wpList_load_arrAt (hgd : o.guard = none) (ty : TypeId) (x : Operand) (ho : o.op = .load ty x) (g off : Nat) (hx : a.eval x = .pointer (some ⟨g, off, none⟩)) (l : List UInt8) (n : Nat) (hn : l.length = n)
    (hc : ∀ i, i < n → w.cell? ⟨g, off + i, none⟩ = some (.int .u8 ((at8 l i).toNat : Int))) (e : TypeId)
    (hu : P.underlying ty = some (.array n e)) (hi : (P.info? ty).map (·.size) = some n) (hK : wpList P ops Q rest (a.put o.dst (.agg (bcells l).toArray)) w) : wpList P ops Q (o :: rest) a w := by
  refine wpList_plain hgd fun K hK' => ?_
  unfold Oper.wp execOp
  have hrun := run_loadVar_at (P := P) w g off ty (bcells l) _ (fun j v hv => by
    have hj : j < l.length := by have := (List.getElem?_eq_some_iff.1 hv).1; rwa [bcells_length] at this
    rw [hc j (by omega), ← bcells_at l j hj, hv]) hu rfl (by rw [hi, bcells_length, hn])
  simp only [ho, hx, Instr.loadAt, Instr.sureAddr, Sem.run_bind, Sem.run_pure, Result.andThen_ok, hrun]
  exact hK' _ _ hK
end
def slen8 : Value → Nat
  | .slice _ n _ => n
  | _ => 0
theorem zeros16 : (#[.int .u8 0, .int .u8 0, .int .u8 0, .int .u8 0, .int .u8 0, .int .u8 0, .int .u8 0, .int .u8 0, .int .u8 0, .int .u8 0, .int .u8 0, .int .u8 0, .int .u8 0, .int .u8 0, .int .u8 0, .int .u8 0] : Array Value) = (bcells (List.replicate 16 0)).toArray := rfl
theorem at8_drop (l : List UInt8) (k i : Nat) : at8 (l.drop k) i = at8 l (k + i) := by
  simp [at8, List.getD_eq_getElem?_getD]
theorem BRd.cut16 {w : World} {kb ko n c : Nat} {l : List UInt8} (h : BRd w (.slice (some ⟨kb, ko, none⟩) n c) l) (hl : 16 ≤ l.length) : BRd w (.slice (if c = 16 then some ⟨kb, ko, none⟩ else some ⟨kb, ko + 16, none⟩) (n - 16) (c - 16)) (l.drop 16) := by
  have := BAt.cutG h 16 hl
  unfold cutA at this
  rw [Option.map_some, addr_add] at this
  exact this
theorem run_arrayAt {P : Program} (arr e : TypeId) (n len c : Nat) (a : Addr) (hu : P.underlying arr = some (.array n e)) (hn : n ≤ len) (w : World) : (Instr.arrayAt arr (.slice (some a) len c)).run P w = .ok (.pointer (some a)) w := by
  unfold Instr.arrayAt
  simp [run_underlying hu, show ¬ len < n by omega]
set_option maxRecDepth 100000 in
set_option maxHeartbeats 2000000 in
theorem block_any (kv inv : Value) (keys b : List UInt8) (w : World) (hk : BRd w kv keys) (hin : BRd w inv b) (hkl : keys.length = 176 ∨ keys.length = 240) (hb : b.length = 16) :
    Calls Tryd.prog 68 #[kv, inv] w fun e w' => ∃ v, e = .returned (.tuple #[v, .int .i64 0]) ∧ BAt w' (fun c => w.heap.size ≤ c) v (blockOf keys b) ∧ Keeps (fun _ => False) w w' := by
  obtain ⟨kb, ko, kc, rfl, hkc, hkm, -, -⟩ := BAt.at8 hk (by omega)
  obtain ⟨bb, bo, bc, rfl, -, -, -, hbc⟩ := BAt.at8 hin (by omega)
  have HK := Lib.hid hk
  have HBC := Lib.hid (fun (W : World) (h : Keeps (fun _ => False) w W) (i : Nat) (hi : i < 16) => h.cell (hbc i (by omega)) (fun h => h))
  rw [hb]
  obtain ⟨N, hN⟩ : ∃ N, keys.length = N := ⟨_, rfl⟩
  rw [hN] at hkl HK hkc ⊢
  have HN := Lib.hid hN
  clear hk hin hbc hN
  have hL := boxL_len
  have g0 : (¬ N = 176) → N = 240 := by omega
  rcases hkl with rfl | rfl
  all_goals
    clear g0
    go_enter Tryd.func68, Tryd.ntmps68
    go_wp2_with fail
    refine (boxes_any _).mono ?_
    rintro e w1 ⟨rfl, hk1⟩
    have hz1 : ARow (w1.alloc (.cells Tryd.zeroCells95 95)) w1.heap.size (List.replicate 256 0) 95 := by rw [zero256]; exact ARow.new _ _ _
    have hka1 := hk1.alloc (.cells Tryd.zeroCells95 95)
    have HZ1 := Lib.hid hz1
    have HKA := Lib.hid hka1
    clear hz1 hka1
    have hat : ∀ W : World, (Instr.arrayAt 113 (.slice (some ⟨bb, bo, none⟩) 16 bc)).run Tryd.prog W = .ok (.pointer (some ⟨bb, bo, none⟩)) W := fun W => run_arrayAt _ 5 16 16 bc _ Tryd.underlying113 (by omega) W
    go_wp2_with (first | ((with_reducible refine wpList_store_arr rfl 95 _ _ rfl rfl rfl boxL rfl HZ1.out 256 List.length_replicate hL (by kernel_rfl) ?_); intro w2 hr2 hk2; have hk02 := HKA.out.from hk2 (fun b e => by subst e; exact hk1.size)) | (with_reducible refine wpList_load_arrAt rfl 113 _ rfl bb bo rfl b 16 hb (HBC.out _ hk02) 5 Tryd.underlying113 (by kernel_rfl) ?_))
    clear hat
    have hk2k : BRd w2 (.slice (some ⟨kb, ko, none⟩) _ kc) keys := HK.out.keeps hk02
    refine (with_any8 b keys _ w2 hb hk2k (by rw [HN.out]; omega) (by rw [HN.out]; omega)).mono ?_
    rintro e w3 ⟨rfl, hk3⟩
    have hwl := withF_len b keys
    obtain ⟨cur, hcur⟩ : ∃ cur, withF b keys = cur := ⟨_, rfl⟩
    rw [hcur] at hwl ⊢
    have HCUR := Lib.hid hcur
    clear hcur
    have hr3 := hr2.keeps hk3 (fun h => h)
    have hk03 := hk02.trans hk3 (fun _ _ h => h)
    obtain ⟨T6, hT6⟩ : ∃ T6, w1.heap.size = T6 := ⟨_, rfl⟩
    have hT6w : w.heap.size ≤ T6 := by have := hk1.size; omega
    rw [hT6] at hr3 ⊢
    have hz3 : ARow (w3.alloc (.cells (bcells (List.replicate 16 0)).toArray 113)) w3.heap.size (List.replicate 16 0) 113 := ARow.new _ _ _
    have hr3a := hr3.alloc (.cells (bcells (List.replicate 16 0)).toArray 113)
    have hk3a := hk03.alloc (.cells (bcells (List.replicate 16 0)).toArray 113)
    have hT67 : T6 ≠ w3.heap.size := by have := hr3.lt; omega
    rw [← zeros16] at hz3 hr3a hk3a
    have HZ3 := Lib.hid hz3
    have HR3 := Lib.hid hr3a
    have HK3 := Lib.hid hk3a
    have hT7w : w.heap.size ≤ w3.heap.size := hk03.size
    clear hz3 hr3a hk3a hk3 hr3 hr2 hk2 hk2k hk02 hT6 hk1 HKA HZ1 hk03
    go_wp2_with ((with_reducible refine wpList_store_arr rfl 113 _ _ rfl rfl rfl cur rfl HZ3.out 16 List.length_replicate hwl (by kernel_rfl) ?_); intro w4 hr4 hk4)
    have hcut := BRd.cut16 HK.out (by rw [HN.out]; omega)
    rw [if_neg (by omega)] at hcut
    have hr64 := HR3.out.keeps hk4 (fun e => hT67 e)
    have hk04 := HK3.out.from hk4 (fun b e => by subst e; exact hT7w)
    have HCUT := Lib.hid hcut
    obtain ⟨T7, hT7⟩ : ∃ T7, w3.heap.size = T7 := ⟨_, rfl⟩
    rw [hT7] at hr4 hT67 hT7w ⊢
    have hbo := blockOf_len keys b
    have hst : ∀ n, keys.length / 16 - 1 = n → roundsF n (keys.drop 16) cur = blockOf keys b := fun n hn => by rw [← hn, ← HCUR.out]; rfl
    have hst2 := hst _ (by rw [HN.out])
    have hdl : (keys.drop 16).length = keys.length - 16 := List.length_drop
    rw [HN.out] at hdl
    have HB := Lib.hid hst2
    clear hk4 hcut hst HZ3 HR3 HK3 hT7 hst2 HCUR HK
    go_loopw [0] (fun u0 wr => ∃ (M n : Nat) (ks cu : List UInt8) (x : Option Addr) (c : Nat), u0 = .slice x M c ∧ ks.length = M ∧ M = 16 * n ∧ n ≤ 14 ∧ BRd w (.slice x M c) ks ∧ cu.length = 16 ∧ ARow wr T7 cu 113 ∧ ARow wr T6 boxL 95 ∧ roundsF n ks cu = blockOf keys b ∧ Keeps (fun _ => False) w wr) (fun u0 _ => slen8 u0)
    case atStart => exact ⟨_, _, keys.drop 16, cur, _, _, rfl, hdl, by simp, by omega, HCUT.out, hwl, hr4, hr64, HB.out, hk04⟩
    case round =>
      obtain ⟨M, n, ks, cu, x, c, rfl, hM, hMn, hn14, hks, hcul, h7, h6, hR, hkr⟩ := hrel
      clear hr64 hk04 HCUT hr4 hdl
      have HR := Lib.hid hR
      have HMN := Lib.hid hMn
      clear hR hMn
      cases n with
      | zero =>
        obtain rfl : M = 0 := HMN.out
        go_wp2
        go_ret2
        have e1 : cu = blockOf keys b := HR.out
        have h8 := h7.read (by omega)
        rw [hcul, e1] at h8
        exact ⟨_, rfl, h8.mono (fun b e => by rw [e]; exact hT7w), hkr⟩
      | succ n =>
        obtain ⟨b2, o2, c2, he2, hc2, -, -, -⟩ := BAt.at8 hks (by rw [hM, HMN.out]; omega)
        simp only [Value.slice.injEq] at he2
        obtain ⟨rfl, -, rfl⟩ := he2
        have hM16 : 16 ≤ M := by rw [HMN.out]; omega
        have HKS := Lib.hid hks
        have hrl : (rowsF cu).length = 16 := by simp [rowsF]
        go_wp2_with (with_reducible refine wpList_load_arr rfl 113 _ rfl rfl h7 16 hcul 5 Tryd.underlying113 (by kernel_rfl) ?_)
        refine (rows_any8 cu T6 _ hcul h6).mono ?_
        rintro e w5 ⟨rfl, hk5⟩
        have h75 := h7.keeps hk5 (fun h => h)
        have h65 := h6.keeps hk5 (fun h => h)
        have hkr5 := hkr.trans hk5 (fun _ _ h => h)
        clear h7 h6 hkr hks hk5
        by_cases hn0 : n = 0
        · subst hn0
          obtain rfl : M = 16 := HMN.out
          obtain ⟨C, hC⟩ : ∃ C, rowsF cu = C := ⟨_, rfl⟩
          have hstep : withF C ks = blockOf keys b := by rw [← hC]; exact HR.out
          rw [hC] at hrl ⊢
          have HST := Lib.hid hstep
          clear hC hstep
          go_wp2_with (first | ((with_reducible refine wpList_store_arr rfl 113 _ _ rfl rfl rfl C rfl h75 16 hcul hrl (by kernel_rfl) ?_); intro w6 h76 hk6) | (with_reducible refine wpList_load_arr rfl 113 _ rfl rfl h76 16 hrl 5 Tryd.underlying113 (by kernel_rfl) ?_))
          have h66 := h65.keeps hk6 hT67
          have hkr6 := hkr5.from hk6 (fun b e => by subst e; exact hT7w)
          have hks6 : BRd w6 (.slice (some ⟨b2, o2, none⟩) 16 c) ks := HKS.out.keeps hkr6
          clear h75 h65 hkr5 hk6
          refine (with_any8 C ks _ w6 hrl hks6 (by omega) (by omega)).mono ?_
          rintro e w7 ⟨rfl, hk7⟩
          have hwl2 := withF_len C ks
          obtain ⟨D, hD⟩ : ∃ D, withF C ks = D := ⟨_, rfl⟩
          rw [hD] at hwl2 HST ⊢
          have h77 := h76.keeps hk7 (fun h => h)
          have h67 := h66.keeps hk7 (fun h => h)
          have hkr7 := hkr6.trans hk7 (fun _ _ h => h)
          clear h76 h66 hkr6 hks6 hk7 hD
          have hcutK := BRd.cut16 HKS.out (by omega)
          go_wp2_with ((with_reducible refine wpList_store_arr rfl 113 _ _ rfl rfl rfl D rfl h77 16 hrl hwl2 (by kernel_rfl) ?_); intro w8 h78 hk8)
          have h68 := h67.keeps hk8 hT67
          have hkr8 := hkr7.from hk8 (fun b e => by subst e; exact hT7w)
          have hks8 := hcutK
          have hdl2 : (ks.drop 16).length = 0 := by rw [List.length_drop]; omega
          clear h77 h67 hkr7 hk8
          go_roundw
          case rel => exact ⟨0, 0, ks.drop 16, D, _, _, rfl, hdl2, rfl, by omega, hks8, hwl2, h78, h68, HST.out, hkr8⟩
          case measure => simp [slen8]
        · have hM17 : 16 < M := by rw [HMN.out]; omega
          obtain ⟨C, hC⟩ : ∃ C, rowsF cu = C := ⟨_, rfl⟩
          have hstep : roundsF n (ks.drop 16) (withF (mixF C) ks) = blockOf keys b := by
            rw [← hC, ← HR.out]
            show _ = roundsF n (ks.drop 16) (withF (if n = 0 then rowsF cu else mixF (rowsF cu)) ks)
            rw [if_neg hn0]
          rw [hC] at hrl ⊢
          have HST := Lib.hid hstep
          clear hC hstep
          go_wp2_with (first | ((with_reducible refine wpList_store_arr rfl 113 _ _ rfl rfl rfl C rfl h75 16 hcul hrl (by kernel_rfl) ?_); intro w6 h76 hk6) | (with_reducible refine wpList_load_arr rfl 113 _ rfl rfl h76 16 hrl 5 Tryd.underlying113 (by kernel_rfl) ?_))
          have h66 := h65.keeps hk6 hT67
          have hkr6 := hkr5.from hk6 (fun b e => by subst e; exact hT7w)
          clear h75 h65 hkr5 hk6
          refine (mix_any8 C w6 hrl).mono ?_
          rintro e w6a ⟨rfl, hk6a⟩
          have hml : (mixF C).length = 16 := by simp [mixF]
          obtain ⟨E, hE⟩ : ∃ E, mixF C = E := ⟨_, rfl⟩
          rw [hE] at hml HST ⊢
          have h76a := h76.keeps hk6a (fun h => h)
          have h66a := h66.keeps hk6a (fun h => h)
          have hkr6a := hkr6.trans hk6a (fun _ _ h => h)
          clear h76 h66 hkr6 hk6a hE
          go_wp2_with (first | ((with_reducible refine wpList_store_arr rfl 113 _ _ rfl rfl rfl E rfl h76a 16 hrl hml (by kernel_rfl) ?_); intro w6b h76b hk6b) | (with_reducible refine wpList_load_arr rfl 113 _ rfl rfl h76b 16 hml 5 Tryd.underlying113 (by kernel_rfl) ?_))
          have h66b := h66a.keeps hk6b hT67
          have hkr6b := hkr6a.from hk6b (fun b e => by subst e; exact hT7w)
          have hks6 : BRd w6b (.slice (some ⟨b2, o2, none⟩) M c) ks := (HKS.out.keeps hkr6b)
          clear h76a h66a hkr6a hk6b
          refine (with_any8 E ks _ w6b hml hks6 (by omega) (by rw [hM, HMN.out]; omega)).mono ?_
          rintro e w7 ⟨rfl, hk7⟩
          have hwl2 := withF_len E ks
          obtain ⟨D, hD⟩ : ∃ D, withF E ks = D := ⟨_, rfl⟩
          rw [hD] at hwl2 HST ⊢
          have h77 := h76b.keeps hk7 (fun h => h)
          have h67 := h66b.keeps hk7 (fun h => h)
          have hkr7 := hkr6b.trans hk7 (fun _ _ h => h)
          clear h76b h66b hkr6b hks6 hk7 hD
          have hcutK := Lib.hid (BRd.cut16 HKS.out (by omega))
          go_wp2_with ((with_reducible refine wpList_store_arr rfl 113 _ _ rfl rfl rfl D rfl h77 16 hml hwl2 (by kernel_rfl) ?_); intro w8 h78 hk8)
          have h68 := h67.keeps hk8 hT67
          have hkr8 := hkr7.from hk8 (fun b e => by subst e; exact hT7w)
          have hks8 := hcutK.out
          rw [if_neg (by omega)] at hks8
          have hdl2 : (ks.drop 16).length = M - 16 := by rw [List.length_drop]; omega
          have hM2 : M - 16 = 16 * n := by rw [HMN.out]; omega
          clear h77 h67 hkr7 hk8 hcutK
          go_roundw
          case rel => exact ⟨M - 16, n, ks.drop 16, D, _, _, rfl, hdl2, hM2, by omega, hks8, hwl2, h78, h68, HST.out, hkr8⟩
          case measure => simp [slen8]; omega
end Go.Proofs.YtekaoknpjpbjgaaDoor

/-! The program's AES: the keys of each round. -/
namespace Go.Proofs.YtekaoknpjpbjgaaDoor
set_option linter.unusedVariables false
set_option linter.unusedSimpArgs false
open Go.RowKit

set_option maxRecDepth 100000 in
theorem bclone_any (v : Value) (l : List UInt8) (w : World) (h : BRd w v l) (hl : l.length ≤ 1000000) (h0 : 0 < l.length) :
    Calls Tryd.prog 64 #[v] w (Gives l w) := by
  obtain ⟨b, off, c, rfl, hc, hm, hb, -⟩ := BAt.at8 h h0
  have hO := Own.made w 5 w.heap.size (Nat.le_refl _)
  have hka := (Keeps.refl (fun _ => False) w).alloc (.cells #[] 5)
  obtain ⟨v', w', hrun, ho, hk, -⟩ := run_append_bytes (ty := 25) (v := .slice (some ⟨w.heap.size, 0, none⟩) 0 0) (l := []) hO (BRd.keeps h hka) (by simp; omega) hka.size
  rw [List.nil_append] at ho
  have HR := Lib.hid hrun
  have HO := Lib.hid ho
  have HK := Lib.hid (hka.from hk (fun i e => by simp [Value.ownBlock] at e; omega))
  clear hrun ho hk hO hka
  have hE := fun (a : Option Addr) (n : Nat) (w : World) => Lib.run_eql_slice_nil (P := Tryd.prog) w 25 _ a n c 0 0 Tryd.underlying25
  go_enter Tryd.func64, Tryd.ntmps64
  go_wp2_with (at_builtin; refine Lib.wpList_append_run _ rfl _ _ _ _ rfl _ _ rfl rfl _ _ HR.out ?_)
  go_ret
  exact ⟨_, rfl, HO.out, HK.out⟩
theorem ix0 (x0 x1 x2 x3 : Value) (w : World) : (Instr.index 97 (.agg #[x0, x1, x2, x3]) (.int .i64 0)).run Tryd.prog w = .ok x0 w := by kernel_rfl
theorem ix1 (x0 x1 x2 x3 : Value) (w : World) : (Instr.index 97 (.agg #[x0, x1, x2, x3]) (.int .i64 1)).run Tryd.prog w = .ok x1 w := by kernel_rfl
theorem ix2 (x0 x1 x2 x3 : Value) (w : World) : (Instr.index 97 (.agg #[x0, x1, x2, x3]) (.int .i64 2)).run Tryd.prog w = .ok x2 w := by kernel_rfl
theorem ix3 (x0 x1 x2 x3 : Value) (w : World) : (Instr.index 97 (.agg #[x0, x1, x2, x3]) (.int .i64 3)).run Tryd.prog w = .ok x3 w := by kernel_rfl
theorem run_index4 (wd : List UInt8) (hw : wd.length = 4) (j : Nat) (hj : j < 4) (w : World) : (Instr.index 97 (.agg (bcells wd).toArray) (.int .i64 j)).run Tryd.prog w = .ok (.int .u8 ((at8 wd j).toNat : Int)) w := by
  match wd, hw with
  | [a, b, c, d], _ =>
    obtain rfl | rfl | rfl | rfl : j = 0 ∨ j = 1 ∨ j = 2 ∨ j = 3 := by omega
    · exact ix0 _ _ _ _ w
    · exact ix1 _ _ _ _ w
    · exact ix2 _ _ _ _ w
    · exact ix3 _ _ _ _ w
set_option maxRecDepth 100000 in
set_option maxHeartbeats 2000000 in
theorem keys_any (kv : Value) (key : List UInt8) (w : World) (hk : BRd w kv key) (hkl : key.length = 16 ∨ key.length = 32) :
    Calls Tryd.prog 51 #[kv] w fun e w' => ∃ v, e = .returned (.tuple #[v, .int .i64 0]) ∧ BOwn w' w.heap.size v (keysOf key) ∧ Keeps (fun _ => False) w w' := by
  obtain ⟨ka, kc, rfl, hkc, hkm⟩ := BAt.slice hk
  have HK := Lib.hid hk
  obtain ⟨N, hN⟩ : ∃ N, key.length = N := ⟨_, rfl⟩
  have hcl := fun (W : World) (h : Keeps (fun _ => False) w W) => bclone_any _ key W (hk.keeps h) (by omega) (by omega)
  rw [hN] at hkl HK hkc hcl ⊢
  have HCL := Lib.hid hcl
  have HN := Lib.hid hN
  clear hk hN hcl
  have hL := boxL_len
  rcases hkl with rfl | rfl
  · go_enter Tryd.func51, Tryd.ntmps51
    go_wp2_with fail
    refine (boxes_any _).mono ?_
    rintro e w1 ⟨rfl, hk1⟩
    have hz1 : ARow (w1.alloc (.cells Tryd.zeroCells95 95)) w1.heap.size (List.replicate 256 0) 95 := by rw [zero256]; exact ARow.new _ _ _
    have hka1 := hk1.alloc (.cells Tryd.zeroCells95 95)
    have HZ1 := Lib.hid hz1
    have HKA := Lib.hid hka1
    clear hz1 hka1
    go_wp2_with ((with_reducible refine wpList_store_arr rfl 95 _ _ rfl rfl rfl boxL rfl HZ1.out 256 List.length_replicate hL (by kernel_rfl) ?_); intro w2 hr2 hk2)
    have hk02 := HKA.out.from hk2 (fun b e => by subst e; exact hk1.size)
    refine (HCL.out w2 hk02).mono ?_
    rintro e w3 ⟨v3, rfl, ho3, hk3⟩
    obtain ⟨a3, c3, rfl, -, -⟩ := BOwn.slice ho3
    rw [HN.out] at ho3 ⊢
    have hr3 := hr2.keeps hk3 (fun h => h)
    have hk03 := hk02.trans hk3 (fun _ _ h => h)
    have ho3' := ho3.mono (base' := w.heap.size) hk02.size
    obtain ⟨T5, hT5⟩ : ∃ T5, w1.heap.size = T5 := ⟨_, rfl⟩
    have hT5w : w.heap.size ≤ T5 := by have := hk1.size; omega
    rw [hT5] at hr3 ⊢
    have HR3 := Lib.hid hr3
    have HO3 := Lib.hid ho3'
    have HK3 := Lib.hid hk03
    clear hr3 ho3' hk03 hk3 ho3 hr2 hk2 hk02 hT5 hk1 HKA HZ1 HCL HK
    go_wp2
    have hst : keysF 16 40 key 1 = keysOf key := by unfold keysOf; rw [HN.out]; rfl
    have HST := Lib.hid hst
    clear hst
    go_loopw [6, 7, 8] (fun u6 u7 u8 wr => ∃ (f i : Nat) (out : List UInt8) (t : UInt8) (a : Option Addr) (c : Nat), u6 = .slice a i c ∧ u7 = .int .u8 (t.toNat : Int) ∧ u8 = .int .i64 i ∧ out.length = i ∧ i + 4 * f = 176 ∧ 16 ≤ i ∧ BOwn wr w.heap.size (.slice a i c) out ∧ ARow wr T5 boxL 95 ∧ keysF 16 f out t = keysOf key ∧ Keeps (fun _ => False) w wr) (fun _ _ u8 _ => 176 - (intOf u8).toNat)
    case atStart => exact ⟨40, 16, key, 1, _, _, rfl, rfl, rfl, HN.out, by omega, by omega, HO3.out, HR3.out, HST.out, HK3.out⟩
    case round =>
      obtain ⟨f, i, out, t, a, c, rfl, rfl, rfl, hol, hif, hiN, ho, hr, hF, hkr⟩ := hrel
      have HF := Lib.hid hF
      have HKR := Lib.hid hkr
      clear HR3 HO3 HST HK3 hF hkr
      cases f with
      | zero =>
        obtain rfl : i = 176 := by omega
        have HO := Lib.hid ho
        clear ho hr
        go_wp2
        go_ret2
        have e1 : out = keysOf key := HF.out
        exact ⟨_, rfl, by rw [← e1]; exact HO.out, HKR.out⟩
      | succ f =>
        obtain ⟨k, hk⟩ : ∃ k, i = k + 4 := ⟨i - 4, by omega⟩
        obtain ⟨p, hp⟩ : ∃ p, i = p + 16 := ⟨i - 16, by omega⟩
        have hi300 : i ≤ 236 := by omega
        have hilt : i < 176 := by omega
        have qk : (i : Int) - 4 = (k : Int) := by omega
        have qp : (i : Int) - 16 = (p : Int) := by omega
        have qik : i - k = 4 := by omega
        have hkb : k ≤ 232 := by omega
        have hpb : p ≤ 224 := by omega
        have hki : k ≤ i := by omega
        obtain ⟨g, off, c', he, hcl, -, hgb⟩ := BOwn.place ho (by omega)
        simp only [Value.slice.injEq] at he
        obtain ⟨rfl, -, rfl⟩ := he
        have hck : ¬ c = k := by omega
        obtain ⟨x0, hx0⟩ : ∃ x, at8 out k = x := ⟨_, rfl⟩
        obtain ⟨x1, hx1⟩ : ∃ x, at8 out (k + 1) = x := ⟨_, rfl⟩
        obtain ⟨x2, hx2⟩ : ∃ x, at8 out (k + 2) = x := ⟨_, rfl⟩
        obtain ⟨x3, hx3⟩ : ∃ x, at8 out (k + 3) = x := ⟨_, rfl⟩
        have hcell : ∀ j, j < out.length → wr.cell? ⟨g, off + j, none⟩ = some (.int .u8 ((at8 out j).toNat : Int)) := fun j hj => by
          obtain ⟨b9, o9, c9, e9, -, -, -, h9⟩ := BAt.at8 ho.bat (by omega)
          simp only [Value.slice.injEq, Option.some.injEq, Addr.mk.injEq, and_true] at e9
          obtain ⟨⟨rfl, rfl⟩, -, -⟩ := e9
          exact h9 j hj
        have hw4 : ∀ j, j < 4 → wr.cell? ⟨g, off + k + j, none⟩ = some (.int .u8 ((at8 [x0, x1, x2, x3] j).toNat : Int)) := fun j hj => by
          rw [Nat.add_assoc, hcell (k + j) (by omega)]
          obtain rfl | rfl | rfl | rfl : j = 0 ∨ j = 1 ∨ j = 2 ∨ j = 3 := by omega
          · rw [← hx0]; rfl
          · rw [← hx1]; rfl
          · rw [← hx2]; rfl
          · rw [← hx3]; rfl
        obtain ⟨X4, hX4⟩ : ∃ X4, [x0, x1, x2, x3] = X4 := ⟨_, rfl⟩
        have hX4l : X4.length = 4 := by rw [← hX4]; rfl
        have HX4 := Lib.hid (show at8 X4 0 = x0 ∧ at8 X4 1 = x1 ∧ at8 X4 2 = x2 ∧ at8 X4 3 = x3 by rw [← hX4]; exact ⟨rfl, rfl, rfl, rfl⟩)
        rw [hX4] at hw4
        have HX4E := Lib.hid hX4
        clear hX4
        have HX := Lib.hid (And.intro hx0 (And.intro hx1 (And.intro hx2 hx3)))
        have HW4 := Lib.hid hw4
        have HCELL := Lib.hid hcell
        have HO := Lib.hid ho
        have HR := Lib.hid hr
        have HIK := Lib.hid hk
        have HIP := Lib.hid hp
        have HOL := Lib.hid hol
        have hat : ∀ W : World, (Instr.arrayAt 97 (.slice (some ⟨g, off + k, none⟩) 4 (c - k))).run Tryd.prog W = .ok (.pointer (some ⟨g, off + k, none⟩)) W := fun W => run_arrayAt _ 5 4 4 (c - k) _ Tryd.underlying97 (by omega) W
        clear hx0 hx1 hx2 hx3 hcell hw4 ho hr hk hp hol
        have hzA : ARow (wr.alloc (.cells #[.int .u8 0, .int .u8 0, .int .u8 0, .int .u8 0] 97)) wr.heap.size (List.replicate 4 0) 97 := ARow.new wr (List.replicate 4 0) 97
        have hkA := (Keeps.refl (fun _ => False) wr).alloc (.cells #[.int .u8 0, .int .u8 0, .int .u8 0, .int .u8 0] 97)
        have HZA := Lib.hid hzA
        have HKA := Lib.hid hkA
        clear hzA hkA
        by_cases hm : i % 16 = 0
        · have hmI : (i : Int) % 16 = 0 := by omega
          go_wp2_with (first | (with_reducible refine wpList_load_arrAt rfl 97 _ rfl g (off + k) rfl X4 4 hX4l HW4.out 5 Tryd.underlying97 (by kernel_rfl) ?_) | ((with_reducible refine wpList_store_arr rfl 97 _ _ rfl rfl rfl X4 rfl HZA.out 4 rfl hX4l (by kernel_rfl) ?_); intro w5 h9 hk5))
          obtain ⟨T9, hT9⟩ : ∃ T9, wr.heap.size = T9 := ⟨_, rfl⟩
          have hT9w : w.heap.size ≤ T9 := by have := HKR.out.size; omega
          have hk15 : Keeps (fun _ => False) wr w5 := HKA.out.from hk5 (fun b e => by subst e; exact Nat.le_refl _)
          have hrT := HR.out.lt
          have hgT : g < T9 := by have := (HO.out.block g rfl).2; omega
          rw [hT9] at h9 hk5 hrT ⊢
          have hr5 := HR.out.keeps hk15 (fun h => h)
          have d0 : w5.cell? ⟨T9, 0, none⟩ = some (.int .u8 (x0.toNat : Int)) := by rw [h9.cell 0 (by rw [hX4l]; omega), HX4.out.1]
          have d1 : w5.cell? ⟨T9, 1, none⟩ = some (.int .u8 (x1.toNat : Int)) := by rw [h9.cell 1 (by rw [hX4l]; omega), HX4.out.2.1]
          have d2 : w5.cell? ⟨T9, 2, none⟩ = some (.int .u8 (x2.toNat : Int)) := by rw [h9.cell 2 (by rw [hX4l]; omega), HX4.out.2.2.1]
          have d3 : w5.cell? ⟨T9, 3, none⟩ = some (.int .u8 (x3.toNat : Int)) := by rw [h9.cell 3 (by rw [hX4l]; omega), HX4.out.2.2.2]
          have l0 := m8_lt x0
          have l1 := m8_lt x1
          have l2 := m8_lt x2
          have l3 := m8_lt x3
          have e0 : w5.cell? ⟨T5, x0.toNat, none⟩ = some (.int .u8 ((sbox x0).toNat : Int)) := hr5.cell x0.toNat (by rw [hL]; exact l0)
          have e1 : w5.cell? ⟨T5, x1.toNat, none⟩ = some (.int .u8 ((sbox x1).toNat : Int)) := hr5.cell x1.toNat (by rw [hL]; exact l1)
          have e2 : w5.cell? ⟨T5, x2.toNat, none⟩ = some (.int .u8 ((sbox x2).toNat : Int)) := hr5.cell x2.toNat (by rw [hL]; exact l2)
          have e3 : w5.cell? ⟨T5, x3.toNat, none⟩ = some (.int .u8 ((sbox x3).toNat : Int)) := hr5.cell x3.toNat (by rw [hL]; exact l3)
          have qk4 : i - 4 = k := by omega
          have hx := m8_xor (sbox x1) t
          obtain ⟨y1, hy1⟩ : ∃ y, sbox x1 ^^^ t = y := ⟨_, rfl⟩
          rw [hy1] at hx
          obtain ⟨y2, hy2⟩ : ∃ y, sbox x2 = y := ⟨_, rfl⟩
          obtain ⟨y3, hy3⟩ : ∃ y, sbox x3 = y := ⟨_, rfl⟩
          obtain ⟨y0, hy0⟩ : ∃ y, sbox x0 = y := ⟨_, rfl⟩
          obtain ⟨y9, hy9⟩ : ∃ y, sbox x1 = y := ⟨_, rfl⟩
          rw [hy0] at e0
          rw [hy9] at e1 hx
          rw [hy2] at e2
          rw [hy3] at e3
          have HWD := Lib.hid (show keyWord 16 out t = [y1, y2, y3, y0] by
            unfold keyWord
            rw [HOL.out, if_pos hm, show i - 3 = k + 1 by omega, show i - 2 = k + 2 by omega, show i - 1 = k + 3 by omega, qk4, HX.out.1, HX.out.2.1, HX.out.2.2.1, HX.out.2.2.2, hy1, hy2, hy3, hy0])
          have HTT := Lib.hid (show turnStep 16 out t = dbl t by unfold turnStep; rw [HOL.out, if_pos hm])
          clear hy0 hy1 hy2 hy3 hy9
          refine region_draws_tail 18 (by kernel_rfl) (by kernel_rfl) ?_
          simp only [List.take_succ_cons, List.take_zero, List.drop_succ_cons, List.drop_zero]
          repeat (go_big_quiet_step (fail))
          refine wpQuiet_nil ?_
          rintro _ ⟨nq, rfl⟩
          have h9n := h9.drewN nq
          go_wp2_with ((refine wpList_store_arr rfl 97 (.tmp 9) (.tmp 61) rfl rfl rfl [y1, y2, y3, y0] rfl h9n 4 hX4l rfl (by kernel_rfl) ?_); intro w6 h96 hk6)
          refine (double_any t _).mono ?_
          rintro e w7 ⟨rfl, rfl⟩
          have hkx := (hk15.drewN nq).from hk6 (fun b e => by subst e; exact Nat.le_of_eq hT9)
          obtain ⟨WD, hWD⟩ : ∃ WD : List UInt8, [y1, y2, y3, y0] = WD := ⟨_, rfl⟩
          have hwl4 : WD.length = 4 := by rw [← hWD]; rfl
          rw [hWD] at HWD h96
          have HW9 := Lib.hid h96
          clear hWD h96 hk6 h9n h9 hk5 hk15 hr5 d0 d1 d2 d3 e0 e1 e2 e3 hx l0 l1 l2 l3
          go_wp2_with (with_reducible refine wpList_load_arr rfl 97 _ rfl rfl HW9.out 4 hwl4 5 Tryd.underlying97 (by kernel_rfl) ?_)
          clear HW9
          have HIX := Lib.hid (fun (j : Nat) (hj : j < 4) => run_index4 WD hwl4 j hj)
          have ho6 := HO.out.keeps hkx (fun _ _ h => h)
          have hr6 := HR.out.keeps hkx (fun h => h)
          have hk6w := HKR.out.trans hkx (fun _ _ h => h)
          clear hkx HO HR HKR HKA HZA HW4 HCELL hat
          go_loopw [91, 6] (fun u91 u6 wx => ∃ (j : Nat) (a' : Option Addr) (c' : Nat), j ≤ 4 ∧ u91 = .int .i64 j ∧ u6 = .slice a' (i + j) c' ∧ BOwn wx w.heap.size (.slice a' (i + j) c') (out ++ (List.range j).map (fun q => at8 WD q ^^^ at8 out (p + q))) ∧ ARow wx T5 boxL 95 ∧ Keeps (fun _ => False) w wx) (fun u91 _ _ => 4 - (intOf u91).toNat)
          case atStart => exact ⟨0, _, _, by omega, rfl, rfl, by simpa using ho6, hr6, hk6w⟩
          case round =>
            obtain ⟨j, a', c', hj4, rfl, rfl, hox, hrx, hkx⟩ := hrel
            clear ho6 hr6 hk6w
            have hlenj : (out ++ (List.range j).map (fun q => at8 WD q ^^^ at8 out (p + q))).length = i + j := by rw [List.length_append, HOL.out]; simp
            by_cases hjl : j < 4
            · obtain ⟨b9, o9, c9, e9, hc9, -, -, h9c⟩ := BAt.at8 hox.bat (by omega)
              simp only [Value.slice.injEq] at e9
              obtain ⟨rfl, -, rfl⟩ := e9
              have hcj := h9c (p + j) (by rw [hlenj]; have := HIP.out; omega)
              have hat8 : at8 (out ++ (List.range j).map (fun q => at8 WD q ^^^ at8 out (p + q))) (p + j) = at8 out (p + j) := by
                unfold at8
                rw [List.getD_eq_getElem?_getD, List.getD_eq_getElem?_getD, List.getElem?_append_left (by rw [HOL.out]; have := HIP.out; omega)]
              rw [hat8] at hcj
              have hxx := m8_xor (at8 WD j) (at8 out (p + j))
              obtain ⟨z, hz⟩ : ∃ z, at8 WD j ^^^ at8 out (p + j) = z := ⟨_, rfl⟩
              have hsn : out ++ (List.range (j + 1)).map (fun q => at8 WD q ^^^ at8 out (p + q)) = (out ++ (List.range j).map (fun q => at8 WD q ^^^ at8 out (p + q))) ++ [z] := by
                rw [List.range_succ, List.map_append, ← List.append_assoc, ← hz]
                rfl
              rw [hz] at hxx
              have hix := HIX.out j hjl
              have HSN := Lib.hid hsn
              have hlz : ((out ++ (List.range j).map (fun q => at8 WD q ^^^ at8 out (p + q))) ++ [z]).length = i + (j + 1) := by rw [List.length_append, hlenj]; rfl
              have hbl := BAt.one wr (z.toNat : Int) z 5 rfl
              have hka := (Keeps.refl (fun _ => False) wr).alloc (.cells #[.int .u8 (z.toNat : Int)] 5)
              obtain ⟨v7, w7, hrun, hb7, hk7, -⟩ := run_append_bytes (ty := 25) (hox.keeps hka (fun _ _ h => h)) hbl (by rw [hlenj]; simp; omega) (by have := hka.size; have := hkx.size; omega)
              obtain ⟨a7, c7, rfl, -, -⟩ := BOwn.slice hb7
              rw [hlz] at hb7 hrun
              have hr7 := (hrx.keeps hka (fun h => h)).keeps hk7 (fun e => hox.apart hrx (by decide) e)
              have hk7w := (hkx.trans hka (fun _ _ h => h)).from hk7 (fun b hb => (hox.block b hb).1)
              have HRUN := Lib.hid hrun
              have HB7 := Lib.hid hb7
              have HR7 := Lib.hid hr7
              have HK7 := Lib.hid hk7w
              have qb := i64_f ((p : Int) + (j : Int)) (by omega) (by omega)
              have qt : ((p : Int) + (j : Int)).toNat = p + j := by omega
              have ql : (p : Int) + (j : Int) < (i : Int) + (j : Int) := by have := HIP.out; omega
              have q0 : (0 : Int) ≤ (p : Int) + (j : Int) := by omega
              generalize at8 WD j = xa at *
              generalize at8 out (p + j) = xb at *
              clear hz hsn hlz hbl hka hrun hb7 hr7 hk7w hk7 hrx hkx hox hat8 h9c hlenj
              go_wp2_with (at_builtin; refine Lib.wpList_append_run _ rfl _ _ _ _ rfl _ _ rfl rfl _ _ HRUN.out ?_)
              go_roundw
              case rel => exact ⟨j + 1, _, _, by omega, by go_num, rfl, by rw [HSN.out]; exact HB7.out, HR7.out, HK7.out⟩
              case measure => simp [intOf]; omega
            · obtain rfl : j = 4 := by omega
              have HOX := Lib.hid hox
              have HRX := Lib.hid hrx
              have HKX := Lib.hid hkx
              have hfin : keysF 16 f (out ++ (List.range 4).map (fun q => at8 WD q ^^^ at8 out (p + q))) (dbl t) = keysOf key := by
                rw [← HF.out]
                show _ = keysF 16 f (keyStep 16 out t) (turnStep 16 out t)
                rw [HTT.out]
                unfold keyStep
                rw [HWD.out, HOL.out, show i - 16 = p by have := HIP.out; omega]
              have HFIN := Lib.hid hfin
              have hl9 : (out ++ (List.range 4).map (fun q => at8 WD q ^^^ at8 out (p + q))).length = i + 4 := hlenj
              have hif2 : i + 4 + 4 * f = 176 := by omega
              clear hox hrx hkx hfin hlenj
              go_wp2
              go_roundw
              case rel => exact ⟨f, i + 4, _, (dbl t), _, _, rfl, rfl, by go_num, hl9, hif2, by omega, HOX.out, HRX.out, HFIN.out, HKX.out⟩
              case measure => simp [intOf]; omega
        · have hmI : ¬ (i : Int) % 16 = 0 := by omega
          by_cases hm2 : (16 : Nat) = 32 ∧ i % 32 = 16
          · try (exact absurd hm2.1 (by decide))
            all_goals
              have hmJ : (i : Int) % 32 = 16 := by omega
              clear hm2
              go_wp2_with (first | (with_reducible refine wpList_load_arrAt rfl 97 _ rfl g (off + k) rfl X4 4 hX4l HW4.out 5 Tryd.underlying97 (by kernel_rfl) ?_) | ((with_reducible refine wpList_store_arr rfl 97 _ _ rfl rfl rfl X4 rfl HZA.out 4 rfl hX4l (by kernel_rfl) ?_); intro w5 h9 hk5))
              obtain ⟨T9, hT9⟩ : ∃ T9, wr.heap.size = T9 := ⟨_, rfl⟩
              have hT9w : w.heap.size ≤ T9 := by have := HKR.out.size; omega
              have hk15 : Keeps (fun _ => False) wr w5 := HKA.out.from hk5 (fun b e => by subst e; exact Nat.le_refl _)
              have hrT := HR.out.lt
              have hgT : g < T9 := by have := (HO.out.block g rfl).2; omega
              rw [hT9] at h9 hk5 hrT ⊢
              have hr5 := HR.out.keeps hk15 (fun h => h)
              have d0 : w5.cell? ⟨T9, 0, none⟩ = some (.int .u8 (x0.toNat : Int)) := by rw [h9.cell 0 (by rw [hX4l]; omega), HX4.out.1]
              have d1 : w5.cell? ⟨T9, 1, none⟩ = some (.int .u8 (x1.toNat : Int)) := by rw [h9.cell 1 (by rw [hX4l]; omega), HX4.out.2.1]
              have d2 : w5.cell? ⟨T9, 2, none⟩ = some (.int .u8 (x2.toNat : Int)) := by rw [h9.cell 2 (by rw [hX4l]; omega), HX4.out.2.2.1]
              have d3 : w5.cell? ⟨T9, 3, none⟩ = some (.int .u8 (x3.toNat : Int)) := by rw [h9.cell 3 (by rw [hX4l]; omega), HX4.out.2.2.2]
              have l0 := m8_lt x0
              have l1 := m8_lt x1
              have l2 := m8_lt x2
              have l3 := m8_lt x3
              have e0 : w5.cell? ⟨T5, x0.toNat, none⟩ = some (.int .u8 ((sbox x0).toNat : Int)) := hr5.cell x0.toNat (by rw [hL]; exact l0)
              have e1 : w5.cell? ⟨T5, x1.toNat, none⟩ = some (.int .u8 ((sbox x1).toNat : Int)) := hr5.cell x1.toNat (by rw [hL]; exact l1)
              have e2 : w5.cell? ⟨T5, x2.toNat, none⟩ = some (.int .u8 ((sbox x2).toNat : Int)) := hr5.cell x2.toNat (by rw [hL]; exact l2)
              have e3 : w5.cell? ⟨T5, x3.toNat, none⟩ = some (.int .u8 ((sbox x3).toNat : Int)) := hr5.cell x3.toNat (by rw [hL]; exact l3)
              have qk4 : i - 4 = k := by omega
              obtain ⟨y1, hy1⟩ : ∃ y, sbox x1 = y := ⟨_, rfl⟩
              obtain ⟨y2, hy2⟩ : ∃ y, sbox x2 = y := ⟨_, rfl⟩
              obtain ⟨y3, hy3⟩ : ∃ y, sbox x3 = y := ⟨_, rfl⟩
              obtain ⟨y0, hy0⟩ : ∃ y, sbox x0 = y := ⟨_, rfl⟩
              rw [hy0] at e0
              rw [hy1] at e1
              rw [hy2] at e2
              rw [hy3] at e3
              have HWD := Lib.hid (show keyWord 16 out t = [y0, y1, y2, y3] by
                unfold keyWord
                rw [HOL.out, if_neg hm, if_pos ⟨rfl, by omega⟩, show i - 3 = k + 1 by omega, show i - 2 = k + 2 by omega, show i - 1 = k + 3 by omega, qk4, HX.out.1, HX.out.2.1, HX.out.2.2.1, HX.out.2.2.2, hy1, hy2, hy3, hy0])
              have HTT := Lib.hid (show turnStep 16 out t = t by unfold turnStep; rw [HOL.out, if_neg hm])
              clear hy0 hy1 hy2 hy3
              refine region_draws_tail 16 (by kernel_rfl) (by kernel_rfl) ?_
              simp only [List.take_succ_cons, List.take_zero, List.drop_succ_cons, List.drop_zero]
              repeat (go_big_quiet_step (fail))
              refine wpQuiet_nil ?_
              rintro _ ⟨nq, rfl⟩
              have h9n := h9.drewN nq
              go_wp2_with (first | ((refine wpList_store_arr rfl 97 (.tmp 9) (.tmp 89) rfl rfl rfl [y0, y1, y2, y3] rfl h9n 4 hX4l rfl (by kernel_rfl) ?_); intro w6 h96 hk6; obtain ⟨WD, hWD⟩ : ∃ WD : List UInt8, [y0, y1, y2, y3] = WD := ⟨_, rfl⟩; have hwl4 : WD.length = 4 := by rw [← hWD]; rfl
                                    rw [hWD] at HWD h96; clear hWD) | (with_reducible refine wpList_load_arr rfl 97 _ rfl rfl h96 4 hwl4 5 Tryd.underlying97 (by kernel_rfl) ?_))
              have hkx := (hk15.drewN nq).from hk6 (fun b e => by subst e; exact Nat.le_of_eq hT9)
              clear h96 hk6 h9n h9 hk5 hk15 hr5 d0 d1 d2 d3 e0 e1 e2 e3 l0 l1 l2 l3
              have HIX := Lib.hid (fun (j : Nat) (hj : j < 4) => run_index4 WD hwl4 j hj)
              have ho6 := HO.out.keeps hkx (fun _ _ h => h)
              have hr6 := HR.out.keeps hkx (fun h => h)
              have hk6w := HKR.out.trans hkx (fun _ _ h => h)
              clear hkx HO HR HKR HKA HZA HW4 HCELL hat
              go_loopw [91, 6] (fun u91 u6 wx => ∃ (j : Nat) (a' : Option Addr) (c' : Nat), j ≤ 4 ∧ u91 = .int .i64 j ∧ u6 = .slice a' (i + j) c' ∧ BOwn wx w.heap.size (.slice a' (i + j) c') (out ++ (List.range j).map (fun q => at8 WD q ^^^ at8 out (p + q))) ∧ ARow wx T5 boxL 95 ∧ Keeps (fun _ => False) w wx) (fun u91 _ _ => 4 - (intOf u91).toNat)
              case atStart => exact ⟨0, _, _, by omega, rfl, rfl, by simpa using ho6, hr6, hk6w⟩
              case round =>
                obtain ⟨j, a', c', hj4, rfl, rfl, hox, hrx, hkx⟩ := hrel
                clear ho6 hr6 hk6w
                have hlenj : (out ++ (List.range j).map (fun q => at8 WD q ^^^ at8 out (p + q))).length = i + j := by rw [List.length_append, HOL.out]; simp
                by_cases hjl : j < 4
                · obtain ⟨b9, o9, c9, e9, hc9, -, -, h9c⟩ := BAt.at8 hox.bat (by omega)
                  simp only [Value.slice.injEq] at e9
                  obtain ⟨rfl, -, rfl⟩ := e9
                  have hcj := h9c (p + j) (by rw [hlenj]; have := HIP.out; omega)
                  have hat8 : at8 (out ++ (List.range j).map (fun q => at8 WD q ^^^ at8 out (p + q))) (p + j) = at8 out (p + j) := by
                    unfold at8
                    rw [List.getD_eq_getElem?_getD, List.getD_eq_getElem?_getD, List.getElem?_append_left (by rw [HOL.out]; have := HIP.out; omega)]
                  rw [hat8] at hcj
                  have hxx := m8_xor (at8 WD j) (at8 out (p + j))
                  obtain ⟨z, hz⟩ : ∃ z, at8 WD j ^^^ at8 out (p + j) = z := ⟨_, rfl⟩
                  have hsn : out ++ (List.range (j + 1)).map (fun q => at8 WD q ^^^ at8 out (p + q)) = (out ++ (List.range j).map (fun q => at8 WD q ^^^ at8 out (p + q))) ++ [z] := by
                    rw [List.range_succ, List.map_append, ← List.append_assoc, ← hz]
                    rfl
                  rw [hz] at hxx
                  have hix := HIX.out j hjl
                  have HSN := Lib.hid hsn
                  have hlz : ((out ++ (List.range j).map (fun q => at8 WD q ^^^ at8 out (p + q))) ++ [z]).length = i + (j + 1) := by rw [List.length_append, hlenj]; rfl
                  have hbl := BAt.one wr (z.toNat : Int) z 5 rfl
                  have hka := (Keeps.refl (fun _ => False) wr).alloc (.cells #[.int .u8 (z.toNat : Int)] 5)
                  obtain ⟨v7, w7, hrun, hb7, hk7, -⟩ := run_append_bytes (ty := 25) (hox.keeps hka (fun _ _ h => h)) hbl (by rw [hlenj]; simp; omega) (by have := hka.size; have := hkx.size; omega)
                  obtain ⟨a7, c7, rfl, -, -⟩ := BOwn.slice hb7
                  rw [hlz] at hb7 hrun
                  have hr7 := (hrx.keeps hka (fun h => h)).keeps hk7 (fun e => hox.apart hrx (by decide) e)
                  have hk7w := (hkx.trans hka (fun _ _ h => h)).from hk7 (fun b hb => (hox.block b hb).1)
                  have HRUN := Lib.hid hrun
                  have HB7 := Lib.hid hb7
                  have HR7 := Lib.hid hr7
                  have HK7 := Lib.hid hk7w
                  have qb := i64_f ((p : Int) + (j : Int)) (by omega) (by omega)
                  have qt : ((p : Int) + (j : Int)).toNat = p + j := by omega
                  have ql : (p : Int) + (j : Int) < (i : Int) + (j : Int) := by have := HIP.out; omega
                  have q0 : (0 : Int) ≤ (p : Int) + (j : Int) := by omega
                  generalize at8 WD j = xa at *
                  generalize at8 out (p + j) = xb at *
                  clear hz hsn hlz hbl hka hrun hb7 hr7 hk7w hk7 hrx hkx hox hat8 h9c hlenj
                  go_wp2_with (at_builtin; refine Lib.wpList_append_run _ rfl _ _ _ _ rfl _ _ rfl rfl _ _ HRUN.out ?_)
                  go_roundw
                  case rel => exact ⟨j + 1, _, _, by omega, by go_num, rfl, by rw [HSN.out]; exact HB7.out, HR7.out, HK7.out⟩
                  case measure => simp [intOf]; omega
                · obtain rfl : j = 4 := by omega
                  have HOX := Lib.hid hox
                  have HRX := Lib.hid hrx
                  have HKX := Lib.hid hkx
                  have hfin : keysF 16 f (out ++ (List.range 4).map (fun q => at8 WD q ^^^ at8 out (p + q))) t = keysOf key := by
                    rw [← HF.out]
                    show _ = keysF 16 f (keyStep 16 out t) (turnStep 16 out t)
                    rw [HTT.out]
                    unfold keyStep
                    rw [HWD.out, HOL.out, show i - 16 = p by have := HIP.out; omega]
                  have HFIN := Lib.hid hfin
                  have hl9 : (out ++ (List.range 4).map (fun q => at8 WD q ^^^ at8 out (p + q))).length = i + 4 := hlenj
                  have hif2 : i + 4 + 4 * f = 176 := by omega
                  clear hox hrx hkx hfin hlenj
                  go_wp2
                  go_roundw
                  case rel => exact ⟨f, i + 4, _, t, _, _, rfl, rfl, by go_num, hl9, hif2, by omega, HOX.out, HRX.out, HFIN.out, HKX.out⟩
                  case measure => simp [intOf]; omega
          · have hmJ : ¬ (i : Int) % 32 = 16 := by omega
            clear hm2
            go_wp2_with (first | (with_reducible refine wpList_load_arrAt rfl 97 _ rfl g (off + k) rfl X4 4 hX4l HW4.out 5 Tryd.underlying97 (by kernel_rfl) ?_) | ((with_reducible refine wpList_store_arr rfl 97 _ _ rfl rfl rfl X4 rfl HZA.out 4 rfl hX4l (by kernel_rfl) ?_); intro w5 h9 hk5) | (with_reducible refine wpList_load_arr rfl 97 _ rfl rfl h9 4 hX4l 5 Tryd.underlying97 (by kernel_rfl) ?_))
            have hkx : Keeps (fun _ => False) wr w5 := HKA.out.from hk5 (fun b e => by subst e; exact Nat.le_refl _)
            have qk4 : i - 4 = k := by omega
            have HWD := Lib.hid (show keyWord 16 out t = X4 by
              unfold keyWord
              rw [HOL.out, if_neg hm, if_neg (by rintro ⟨_, h2⟩; omega), show i - 3 = k + 1 by omega, show i - 2 = k + 2 by omega, show i - 1 = k + 3 by omega, qk4, HX.out.1, HX.out.2.1, HX.out.2.2.1, HX.out.2.2.2, HX4E.out])
            have HTT := Lib.hid (show turnStep 16 out t = t by unfold turnStep; rw [HOL.out, if_neg hm])
            clear h9 hk5
            obtain ⟨WD, hWD⟩ : ∃ WD : List UInt8, X4 = WD := ⟨_, rfl⟩
            have hwl4 : WD.length = 4 := by rw [← hWD]; exact hX4l
            rw [hWD] at HWD ⊢
            clear hWD
            have HIX := Lib.hid (fun (j : Nat) (hj : j < 4) => run_index4 WD hwl4 j hj)
            have ho6 := HO.out.keeps hkx (fun _ _ h => h)
            have hr6 := HR.out.keeps hkx (fun h => h)
            have hk6w := HKR.out.trans hkx (fun _ _ h => h)
            clear hkx HO HR HKR HKA HZA HW4 HCELL hat
            go_loopw [91, 6] (fun u91 u6 wx => ∃ (j : Nat) (a' : Option Addr) (c' : Nat), j ≤ 4 ∧ u91 = .int .i64 j ∧ u6 = .slice a' (i + j) c' ∧ BOwn wx w.heap.size (.slice a' (i + j) c') (out ++ (List.range j).map (fun q => at8 WD q ^^^ at8 out (p + q))) ∧ ARow wx T5 boxL 95 ∧ Keeps (fun _ => False) w wx) (fun u91 _ _ => 4 - (intOf u91).toNat)
            case atStart => exact ⟨0, _, _, by omega, rfl, rfl, by simpa using ho6, hr6, hk6w⟩
            case round =>
              obtain ⟨j, a', c', hj4, rfl, rfl, hox, hrx, hkx⟩ := hrel
              clear ho6 hr6 hk6w
              have hlenj : (out ++ (List.range j).map (fun q => at8 WD q ^^^ at8 out (p + q))).length = i + j := by rw [List.length_append, HOL.out]; simp
              by_cases hjl : j < 4
              · obtain ⟨b9, o9, c9, e9, hc9, -, -, h9c⟩ := BAt.at8 hox.bat (by omega)
                simp only [Value.slice.injEq] at e9
                obtain ⟨rfl, -, rfl⟩ := e9
                have hcj := h9c (p + j) (by rw [hlenj]; have := HIP.out; omega)
                have hat8 : at8 (out ++ (List.range j).map (fun q => at8 WD q ^^^ at8 out (p + q))) (p + j) = at8 out (p + j) := by
                  unfold at8
                  rw [List.getD_eq_getElem?_getD, List.getD_eq_getElem?_getD, List.getElem?_append_left (by rw [HOL.out]; have := HIP.out; omega)]
                rw [hat8] at hcj
                have hxx := m8_xor (at8 WD j) (at8 out (p + j))
                obtain ⟨z, hz⟩ : ∃ z, at8 WD j ^^^ at8 out (p + j) = z := ⟨_, rfl⟩
                have hsn : out ++ (List.range (j + 1)).map (fun q => at8 WD q ^^^ at8 out (p + q)) = (out ++ (List.range j).map (fun q => at8 WD q ^^^ at8 out (p + q))) ++ [z] := by
                  rw [List.range_succ, List.map_append, ← List.append_assoc, ← hz]
                  rfl
                rw [hz] at hxx
                have hix := HIX.out j hjl
                have HSN := Lib.hid hsn
                have hlz : ((out ++ (List.range j).map (fun q => at8 WD q ^^^ at8 out (p + q))) ++ [z]).length = i + (j + 1) := by rw [List.length_append, hlenj]; rfl
                have hbl := BAt.one wr (z.toNat : Int) z 5 rfl
                have hka := (Keeps.refl (fun _ => False) wr).alloc (.cells #[.int .u8 (z.toNat : Int)] 5)
                obtain ⟨v7, w7, hrun, hb7, hk7, -⟩ := run_append_bytes (ty := 25) (hox.keeps hka (fun _ _ h => h)) hbl (by rw [hlenj]; simp; omega) (by have := hka.size; have := hkx.size; omega)
                obtain ⟨a7, c7, rfl, -, -⟩ := BOwn.slice hb7
                rw [hlz] at hb7 hrun
                have hr7 := (hrx.keeps hka (fun h => h)).keeps hk7 (fun e => hox.apart hrx (by decide) e)
                have hk7w := (hkx.trans hka (fun _ _ h => h)).from hk7 (fun b hb => (hox.block b hb).1)
                have HRUN := Lib.hid hrun
                have HB7 := Lib.hid hb7
                have HR7 := Lib.hid hr7
                have HK7 := Lib.hid hk7w
                have qb := i64_f ((p : Int) + (j : Int)) (by omega) (by omega)
                have qt : ((p : Int) + (j : Int)).toNat = p + j := by omega
                have ql : (p : Int) + (j : Int) < (i : Int) + (j : Int) := by have := HIP.out; omega
                have q0 : (0 : Int) ≤ (p : Int) + (j : Int) := by omega
                generalize at8 WD j = xa at *
                generalize at8 out (p + j) = xb at *
                clear hz hsn hlz hbl hka hrun hb7 hr7 hk7w hk7 hrx hkx hox hat8 h9c hlenj
                go_wp2_with (at_builtin; refine Lib.wpList_append_run _ rfl _ _ _ _ rfl _ _ rfl rfl _ _ HRUN.out ?_)
                go_roundw
                case rel => exact ⟨j + 1, _, _, by omega, by go_num, rfl, by rw [HSN.out]; exact HB7.out, HR7.out, HK7.out⟩
                case measure => simp [intOf]; omega
              · obtain rfl : j = 4 := by omega
                have HOX := Lib.hid hox
                have HRX := Lib.hid hrx
                have HKX := Lib.hid hkx
                have hfin : keysF 16 f (out ++ (List.range 4).map (fun q => at8 WD q ^^^ at8 out (p + q))) t = keysOf key := by
                  rw [← HF.out]
                  show _ = keysF 16 f (keyStep 16 out t) (turnStep 16 out t)
                  rw [HTT.out]
                  unfold keyStep
                  rw [HWD.out, HOL.out, show i - 16 = p by have := HIP.out; omega]
                have HFIN := Lib.hid hfin
                have hl9 : (out ++ (List.range 4).map (fun q => at8 WD q ^^^ at8 out (p + q))).length = i + 4 := hlenj
                have hif2 : i + 4 + 4 * f = 176 := by omega
                clear hox hrx hkx hfin hlenj
                go_wp2
                go_roundw
                case rel => exact ⟨f, i + 4, _, t, _, _, rfl, rfl, by go_num, hl9, hif2, by omega, HOX.out, HRX.out, HFIN.out, HKX.out⟩
                case measure => simp [intOf]; omega
  · go_enter Tryd.func51, Tryd.ntmps51
    go_wp2_with fail
    refine (boxes_any _).mono ?_
    rintro e w1 ⟨rfl, hk1⟩
    have hz1 : ARow (w1.alloc (.cells Tryd.zeroCells95 95)) w1.heap.size (List.replicate 256 0) 95 := by rw [zero256]; exact ARow.new _ _ _
    have hka1 := hk1.alloc (.cells Tryd.zeroCells95 95)
    have HZ1 := Lib.hid hz1
    have HKA := Lib.hid hka1
    clear hz1 hka1
    go_wp2_with ((with_reducible refine wpList_store_arr rfl 95 _ _ rfl rfl rfl boxL rfl HZ1.out 256 List.length_replicate hL (by kernel_rfl) ?_); intro w2 hr2 hk2)
    have hk02 := HKA.out.from hk2 (fun b e => by subst e; exact hk1.size)
    refine (HCL.out w2 hk02).mono ?_
    rintro e w3 ⟨v3, rfl, ho3, hk3⟩
    obtain ⟨a3, c3, rfl, -, -⟩ := BOwn.slice ho3
    rw [HN.out] at ho3 ⊢
    have hr3 := hr2.keeps hk3 (fun h => h)
    have hk03 := hk02.trans hk3 (fun _ _ h => h)
    have ho3' := ho3.mono (base' := w.heap.size) hk02.size
    obtain ⟨T5, hT5⟩ : ∃ T5, w1.heap.size = T5 := ⟨_, rfl⟩
    have hT5w : w.heap.size ≤ T5 := by have := hk1.size; omega
    rw [hT5] at hr3 ⊢
    have HR3 := Lib.hid hr3
    have HO3 := Lib.hid ho3'
    have HK3 := Lib.hid hk03
    clear hr3 ho3' hk03 hk3 ho3 hr2 hk2 hk02 hT5 hk1 HKA HZ1 HCL HK
    go_wp2
    have hst : keysF 32 52 key 1 = keysOf key := by unfold keysOf; rw [HN.out]; rfl
    have HST := Lib.hid hst
    clear hst
    go_loopw [6, 7, 8] (fun u6 u7 u8 wr => ∃ (f i : Nat) (out : List UInt8) (t : UInt8) (a : Option Addr) (c : Nat), u6 = .slice a i c ∧ u7 = .int .u8 (t.toNat : Int) ∧ u8 = .int .i64 i ∧ out.length = i ∧ i + 4 * f = 240 ∧ 32 ≤ i ∧ BOwn wr w.heap.size (.slice a i c) out ∧ ARow wr T5 boxL 95 ∧ keysF 32 f out t = keysOf key ∧ Keeps (fun _ => False) w wr) (fun _ _ u8 _ => 240 - (intOf u8).toNat)
    case atStart => exact ⟨52, 32, key, 1, _, _, rfl, rfl, rfl, HN.out, by omega, by omega, HO3.out, HR3.out, HST.out, HK3.out⟩
    case round =>
      obtain ⟨f, i, out, t, a, c, rfl, rfl, rfl, hol, hif, hiN, ho, hr, hF, hkr⟩ := hrel
      have HF := Lib.hid hF
      have HKR := Lib.hid hkr
      clear HR3 HO3 HST HK3 hF hkr
      cases f with
      | zero =>
        obtain rfl : i = 240 := by omega
        have HO := Lib.hid ho
        clear ho hr
        go_wp2
        go_ret2
        have e1 : out = keysOf key := HF.out
        exact ⟨_, rfl, by rw [← e1]; exact HO.out, HKR.out⟩
      | succ f =>
        obtain ⟨k, hk⟩ : ∃ k, i = k + 4 := ⟨i - 4, by omega⟩
        obtain ⟨p, hp⟩ : ∃ p, i = p + 32 := ⟨i - 32, by omega⟩
        have hi300 : i ≤ 236 := by omega
        have hilt : i < 240 := by omega
        have qk : (i : Int) - 4 = (k : Int) := by omega
        have qp : (i : Int) - 32 = (p : Int) := by omega
        have qik : i - k = 4 := by omega
        have hkb : k ≤ 232 := by omega
        have hpb : p ≤ 224 := by omega
        have hki : k ≤ i := by omega
        obtain ⟨g, off, c', he, hcl, -, hgb⟩ := BOwn.place ho (by omega)
        simp only [Value.slice.injEq] at he
        obtain ⟨rfl, -, rfl⟩ := he
        have hck : ¬ c = k := by omega
        obtain ⟨x0, hx0⟩ : ∃ x, at8 out k = x := ⟨_, rfl⟩
        obtain ⟨x1, hx1⟩ : ∃ x, at8 out (k + 1) = x := ⟨_, rfl⟩
        obtain ⟨x2, hx2⟩ : ∃ x, at8 out (k + 2) = x := ⟨_, rfl⟩
        obtain ⟨x3, hx3⟩ : ∃ x, at8 out (k + 3) = x := ⟨_, rfl⟩
        have hcell : ∀ j, j < out.length → wr.cell? ⟨g, off + j, none⟩ = some (.int .u8 ((at8 out j).toNat : Int)) := fun j hj => by
          obtain ⟨b9, o9, c9, e9, -, -, -, h9⟩ := BAt.at8 ho.bat (by omega)
          simp only [Value.slice.injEq, Option.some.injEq, Addr.mk.injEq, and_true] at e9
          obtain ⟨⟨rfl, rfl⟩, -, -⟩ := e9
          exact h9 j hj
        have hw4 : ∀ j, j < 4 → wr.cell? ⟨g, off + k + j, none⟩ = some (.int .u8 ((at8 [x0, x1, x2, x3] j).toNat : Int)) := fun j hj => by
          rw [Nat.add_assoc, hcell (k + j) (by omega)]
          obtain rfl | rfl | rfl | rfl : j = 0 ∨ j = 1 ∨ j = 2 ∨ j = 3 := by omega
          · rw [← hx0]; rfl
          · rw [← hx1]; rfl
          · rw [← hx2]; rfl
          · rw [← hx3]; rfl
        obtain ⟨X4, hX4⟩ : ∃ X4, [x0, x1, x2, x3] = X4 := ⟨_, rfl⟩
        have hX4l : X4.length = 4 := by rw [← hX4]; rfl
        have HX4 := Lib.hid (show at8 X4 0 = x0 ∧ at8 X4 1 = x1 ∧ at8 X4 2 = x2 ∧ at8 X4 3 = x3 by rw [← hX4]; exact ⟨rfl, rfl, rfl, rfl⟩)
        rw [hX4] at hw4
        have HX4E := Lib.hid hX4
        clear hX4
        have HX := Lib.hid (And.intro hx0 (And.intro hx1 (And.intro hx2 hx3)))
        have HW4 := Lib.hid hw4
        have HCELL := Lib.hid hcell
        have HO := Lib.hid ho
        have HR := Lib.hid hr
        have HIK := Lib.hid hk
        have HIP := Lib.hid hp
        have HOL := Lib.hid hol
        have hat : ∀ W : World, (Instr.arrayAt 97 (.slice (some ⟨g, off + k, none⟩) 4 (c - k))).run Tryd.prog W = .ok (.pointer (some ⟨g, off + k, none⟩)) W := fun W => run_arrayAt _ 5 4 4 (c - k) _ Tryd.underlying97 (by omega) W
        clear hx0 hx1 hx2 hx3 hcell hw4 ho hr hk hp hol
        have hzA : ARow (wr.alloc (.cells #[.int .u8 0, .int .u8 0, .int .u8 0, .int .u8 0] 97)) wr.heap.size (List.replicate 4 0) 97 := ARow.new wr (List.replicate 4 0) 97
        have hkA := (Keeps.refl (fun _ => False) wr).alloc (.cells #[.int .u8 0, .int .u8 0, .int .u8 0, .int .u8 0] 97)
        have HZA := Lib.hid hzA
        have HKA := Lib.hid hkA
        clear hzA hkA
        by_cases hm : i % 32 = 0
        · have hmI : (i : Int) % 32 = 0 := by omega
          go_wp2_with (first | (with_reducible refine wpList_load_arrAt rfl 97 _ rfl g (off + k) rfl X4 4 hX4l HW4.out 5 Tryd.underlying97 (by kernel_rfl) ?_) | ((with_reducible refine wpList_store_arr rfl 97 _ _ rfl rfl rfl X4 rfl HZA.out 4 rfl hX4l (by kernel_rfl) ?_); intro w5 h9 hk5))
          obtain ⟨T9, hT9⟩ : ∃ T9, wr.heap.size = T9 := ⟨_, rfl⟩
          have hT9w : w.heap.size ≤ T9 := by have := HKR.out.size; omega
          have hk15 : Keeps (fun _ => False) wr w5 := HKA.out.from hk5 (fun b e => by subst e; exact Nat.le_refl _)
          have hrT := HR.out.lt
          have hgT : g < T9 := by have := (HO.out.block g rfl).2; omega
          rw [hT9] at h9 hk5 hrT ⊢
          have hr5 := HR.out.keeps hk15 (fun h => h)
          have d0 : w5.cell? ⟨T9, 0, none⟩ = some (.int .u8 (x0.toNat : Int)) := by rw [h9.cell 0 (by rw [hX4l]; omega), HX4.out.1]
          have d1 : w5.cell? ⟨T9, 1, none⟩ = some (.int .u8 (x1.toNat : Int)) := by rw [h9.cell 1 (by rw [hX4l]; omega), HX4.out.2.1]
          have d2 : w5.cell? ⟨T9, 2, none⟩ = some (.int .u8 (x2.toNat : Int)) := by rw [h9.cell 2 (by rw [hX4l]; omega), HX4.out.2.2.1]
          have d3 : w5.cell? ⟨T9, 3, none⟩ = some (.int .u8 (x3.toNat : Int)) := by rw [h9.cell 3 (by rw [hX4l]; omega), HX4.out.2.2.2]
          have l0 := m8_lt x0
          have l1 := m8_lt x1
          have l2 := m8_lt x2
          have l3 := m8_lt x3
          have e0 : w5.cell? ⟨T5, x0.toNat, none⟩ = some (.int .u8 ((sbox x0).toNat : Int)) := hr5.cell x0.toNat (by rw [hL]; exact l0)
          have e1 : w5.cell? ⟨T5, x1.toNat, none⟩ = some (.int .u8 ((sbox x1).toNat : Int)) := hr5.cell x1.toNat (by rw [hL]; exact l1)
          have e2 : w5.cell? ⟨T5, x2.toNat, none⟩ = some (.int .u8 ((sbox x2).toNat : Int)) := hr5.cell x2.toNat (by rw [hL]; exact l2)
          have e3 : w5.cell? ⟨T5, x3.toNat, none⟩ = some (.int .u8 ((sbox x3).toNat : Int)) := hr5.cell x3.toNat (by rw [hL]; exact l3)
          have qk4 : i - 4 = k := by omega
          have hx := m8_xor (sbox x1) t
          obtain ⟨y1, hy1⟩ : ∃ y, sbox x1 ^^^ t = y := ⟨_, rfl⟩
          rw [hy1] at hx
          obtain ⟨y2, hy2⟩ : ∃ y, sbox x2 = y := ⟨_, rfl⟩
          obtain ⟨y3, hy3⟩ : ∃ y, sbox x3 = y := ⟨_, rfl⟩
          obtain ⟨y0, hy0⟩ : ∃ y, sbox x0 = y := ⟨_, rfl⟩
          obtain ⟨y9, hy9⟩ : ∃ y, sbox x1 = y := ⟨_, rfl⟩
          rw [hy0] at e0
          rw [hy9] at e1 hx
          rw [hy2] at e2
          rw [hy3] at e3
          have HWD := Lib.hid (show keyWord 32 out t = [y1, y2, y3, y0] by
            unfold keyWord
            rw [HOL.out, if_pos hm, show i - 3 = k + 1 by omega, show i - 2 = k + 2 by omega, show i - 1 = k + 3 by omega, qk4, HX.out.1, HX.out.2.1, HX.out.2.2.1, HX.out.2.2.2, hy1, hy2, hy3, hy0])
          have HTT := Lib.hid (show turnStep 32 out t = dbl t by unfold turnStep; rw [HOL.out, if_pos hm])
          clear hy0 hy1 hy2 hy3 hy9
          refine region_draws_tail 18 (by kernel_rfl) (by kernel_rfl) ?_
          simp only [List.take_succ_cons, List.take_zero, List.drop_succ_cons, List.drop_zero]
          repeat (go_big_quiet_step (fail))
          refine wpQuiet_nil ?_
          rintro _ ⟨nq, rfl⟩
          have h9n := h9.drewN nq
          go_wp2_with ((refine wpList_store_arr rfl 97 (.tmp 9) (.tmp 61) rfl rfl rfl [y1, y2, y3, y0] rfl h9n 4 hX4l rfl (by kernel_rfl) ?_); intro w6 h96 hk6)
          refine (double_any t _).mono ?_
          rintro e w7 ⟨rfl, rfl⟩
          have hkx := (hk15.drewN nq).from hk6 (fun b e => by subst e; exact Nat.le_of_eq hT9)
          obtain ⟨WD, hWD⟩ : ∃ WD : List UInt8, [y1, y2, y3, y0] = WD := ⟨_, rfl⟩
          have hwl4 : WD.length = 4 := by rw [← hWD]; rfl
          rw [hWD] at HWD h96
          have HW9 := Lib.hid h96
          clear hWD h96 hk6 h9n h9 hk5 hk15 hr5 d0 d1 d2 d3 e0 e1 e2 e3 hx l0 l1 l2 l3
          go_wp2_with (with_reducible refine wpList_load_arr rfl 97 _ rfl rfl HW9.out 4 hwl4 5 Tryd.underlying97 (by kernel_rfl) ?_)
          clear HW9
          have HIX := Lib.hid (fun (j : Nat) (hj : j < 4) => run_index4 WD hwl4 j hj)
          have ho6 := HO.out.keeps hkx (fun _ _ h => h)
          have hr6 := HR.out.keeps hkx (fun h => h)
          have hk6w := HKR.out.trans hkx (fun _ _ h => h)
          clear hkx HO HR HKR HKA HZA HW4 HCELL hat
          go_loopw [91, 6] (fun u91 u6 wx => ∃ (j : Nat) (a' : Option Addr) (c' : Nat), j ≤ 4 ∧ u91 = .int .i64 j ∧ u6 = .slice a' (i + j) c' ∧ BOwn wx w.heap.size (.slice a' (i + j) c') (out ++ (List.range j).map (fun q => at8 WD q ^^^ at8 out (p + q))) ∧ ARow wx T5 boxL 95 ∧ Keeps (fun _ => False) w wx) (fun u91 _ _ => 4 - (intOf u91).toNat)
          case atStart => exact ⟨0, _, _, by omega, rfl, rfl, by simpa using ho6, hr6, hk6w⟩
          case round =>
            obtain ⟨j, a', c', hj4, rfl, rfl, hox, hrx, hkx⟩ := hrel
            clear ho6 hr6 hk6w
            have hlenj : (out ++ (List.range j).map (fun q => at8 WD q ^^^ at8 out (p + q))).length = i + j := by rw [List.length_append, HOL.out]; simp
            by_cases hjl : j < 4
            · obtain ⟨b9, o9, c9, e9, hc9, -, -, h9c⟩ := BAt.at8 hox.bat (by omega)
              simp only [Value.slice.injEq] at e9
              obtain ⟨rfl, -, rfl⟩ := e9
              have hcj := h9c (p + j) (by rw [hlenj]; have := HIP.out; omega)
              have hat8 : at8 (out ++ (List.range j).map (fun q => at8 WD q ^^^ at8 out (p + q))) (p + j) = at8 out (p + j) := by
                unfold at8
                rw [List.getD_eq_getElem?_getD, List.getD_eq_getElem?_getD, List.getElem?_append_left (by rw [HOL.out]; have := HIP.out; omega)]
              rw [hat8] at hcj
              have hxx := m8_xor (at8 WD j) (at8 out (p + j))
              obtain ⟨z, hz⟩ : ∃ z, at8 WD j ^^^ at8 out (p + j) = z := ⟨_, rfl⟩
              have hsn : out ++ (List.range (j + 1)).map (fun q => at8 WD q ^^^ at8 out (p + q)) = (out ++ (List.range j).map (fun q => at8 WD q ^^^ at8 out (p + q))) ++ [z] := by
                rw [List.range_succ, List.map_append, ← List.append_assoc, ← hz]
                rfl
              rw [hz] at hxx
              have hix := HIX.out j hjl
              have HSN := Lib.hid hsn
              have hlz : ((out ++ (List.range j).map (fun q => at8 WD q ^^^ at8 out (p + q))) ++ [z]).length = i + (j + 1) := by rw [List.length_append, hlenj]; rfl
              have hbl := BAt.one wr (z.toNat : Int) z 5 rfl
              have hka := (Keeps.refl (fun _ => False) wr).alloc (.cells #[.int .u8 (z.toNat : Int)] 5)
              obtain ⟨v7, w7, hrun, hb7, hk7, -⟩ := run_append_bytes (ty := 25) (hox.keeps hka (fun _ _ h => h)) hbl (by rw [hlenj]; simp; omega) (by have := hka.size; have := hkx.size; omega)
              obtain ⟨a7, c7, rfl, -, -⟩ := BOwn.slice hb7
              rw [hlz] at hb7 hrun
              have hr7 := (hrx.keeps hka (fun h => h)).keeps hk7 (fun e => hox.apart hrx (by decide) e)
              have hk7w := (hkx.trans hka (fun _ _ h => h)).from hk7 (fun b hb => (hox.block b hb).1)
              have HRUN := Lib.hid hrun
              have HB7 := Lib.hid hb7
              have HR7 := Lib.hid hr7
              have HK7 := Lib.hid hk7w
              have qb := i64_f ((p : Int) + (j : Int)) (by omega) (by omega)
              have qt : ((p : Int) + (j : Int)).toNat = p + j := by omega
              have ql : (p : Int) + (j : Int) < (i : Int) + (j : Int) := by have := HIP.out; omega
              have q0 : (0 : Int) ≤ (p : Int) + (j : Int) := by omega
              generalize at8 WD j = xa at *
              generalize at8 out (p + j) = xb at *
              clear hz hsn hlz hbl hka hrun hb7 hr7 hk7w hk7 hrx hkx hox hat8 h9c hlenj
              go_wp2_with (at_builtin; refine Lib.wpList_append_run _ rfl _ _ _ _ rfl _ _ rfl rfl _ _ HRUN.out ?_)
              go_roundw
              case rel => exact ⟨j + 1, _, _, by omega, by go_num, rfl, by rw [HSN.out]; exact HB7.out, HR7.out, HK7.out⟩
              case measure => simp [intOf]; omega
            · obtain rfl : j = 4 := by omega
              have HOX := Lib.hid hox
              have HRX := Lib.hid hrx
              have HKX := Lib.hid hkx
              have hfin : keysF 32 f (out ++ (List.range 4).map (fun q => at8 WD q ^^^ at8 out (p + q))) (dbl t) = keysOf key := by
                rw [← HF.out]
                show _ = keysF 32 f (keyStep 32 out t) (turnStep 32 out t)
                rw [HTT.out]
                unfold keyStep
                rw [HWD.out, HOL.out, show i - 32 = p by have := HIP.out; omega]
              have HFIN := Lib.hid hfin
              have hl9 : (out ++ (List.range 4).map (fun q => at8 WD q ^^^ at8 out (p + q))).length = i + 4 := hlenj
              have hif2 : i + 4 + 4 * f = 240 := by omega
              clear hox hrx hkx hfin hlenj
              go_wp2
              go_roundw
              case rel => exact ⟨f, i + 4, _, (dbl t), _, _, rfl, rfl, by go_num, hl9, hif2, by omega, HOX.out, HRX.out, HFIN.out, HKX.out⟩
              case measure => simp [intOf]; omega
        · have hmI : ¬ (i : Int) % 32 = 0 := by omega
          by_cases hm2 : (32 : Nat) = 32 ∧ i % 32 = 16
          · try (exact absurd hm2.1 (by decide))
            all_goals
              have hmJ : (i : Int) % 32 = 16 := by omega
              clear hm2
              go_wp2_with (first | (with_reducible refine wpList_load_arrAt rfl 97 _ rfl g (off + k) rfl X4 4 hX4l HW4.out 5 Tryd.underlying97 (by kernel_rfl) ?_) | ((with_reducible refine wpList_store_arr rfl 97 _ _ rfl rfl rfl X4 rfl HZA.out 4 rfl hX4l (by kernel_rfl) ?_); intro w5 h9 hk5))
              obtain ⟨T9, hT9⟩ : ∃ T9, wr.heap.size = T9 := ⟨_, rfl⟩
              have hT9w : w.heap.size ≤ T9 := by have := HKR.out.size; omega
              have hk15 : Keeps (fun _ => False) wr w5 := HKA.out.from hk5 (fun b e => by subst e; exact Nat.le_refl _)
              have hrT := HR.out.lt
              have hgT : g < T9 := by have := (HO.out.block g rfl).2; omega
              rw [hT9] at h9 hk5 hrT ⊢
              have hr5 := HR.out.keeps hk15 (fun h => h)
              have d0 : w5.cell? ⟨T9, 0, none⟩ = some (.int .u8 (x0.toNat : Int)) := by rw [h9.cell 0 (by rw [hX4l]; omega), HX4.out.1]
              have d1 : w5.cell? ⟨T9, 1, none⟩ = some (.int .u8 (x1.toNat : Int)) := by rw [h9.cell 1 (by rw [hX4l]; omega), HX4.out.2.1]
              have d2 : w5.cell? ⟨T9, 2, none⟩ = some (.int .u8 (x2.toNat : Int)) := by rw [h9.cell 2 (by rw [hX4l]; omega), HX4.out.2.2.1]
              have d3 : w5.cell? ⟨T9, 3, none⟩ = some (.int .u8 (x3.toNat : Int)) := by rw [h9.cell 3 (by rw [hX4l]; omega), HX4.out.2.2.2]
              have l0 := m8_lt x0
              have l1 := m8_lt x1
              have l2 := m8_lt x2
              have l3 := m8_lt x3
              have e0 : w5.cell? ⟨T5, x0.toNat, none⟩ = some (.int .u8 ((sbox x0).toNat : Int)) := hr5.cell x0.toNat (by rw [hL]; exact l0)
              have e1 : w5.cell? ⟨T5, x1.toNat, none⟩ = some (.int .u8 ((sbox x1).toNat : Int)) := hr5.cell x1.toNat (by rw [hL]; exact l1)
              have e2 : w5.cell? ⟨T5, x2.toNat, none⟩ = some (.int .u8 ((sbox x2).toNat : Int)) := hr5.cell x2.toNat (by rw [hL]; exact l2)
              have e3 : w5.cell? ⟨T5, x3.toNat, none⟩ = some (.int .u8 ((sbox x3).toNat : Int)) := hr5.cell x3.toNat (by rw [hL]; exact l3)
              have qk4 : i - 4 = k := by omega
              obtain ⟨y1, hy1⟩ : ∃ y, sbox x1 = y := ⟨_, rfl⟩
              obtain ⟨y2, hy2⟩ : ∃ y, sbox x2 = y := ⟨_, rfl⟩
              obtain ⟨y3, hy3⟩ : ∃ y, sbox x3 = y := ⟨_, rfl⟩
              obtain ⟨y0, hy0⟩ : ∃ y, sbox x0 = y := ⟨_, rfl⟩
              rw [hy0] at e0
              rw [hy1] at e1
              rw [hy2] at e2
              rw [hy3] at e3
              have HWD := Lib.hid (show keyWord 32 out t = [y0, y1, y2, y3] by
                unfold keyWord
                rw [HOL.out, if_neg hm, if_pos ⟨rfl, by omega⟩, show i - 3 = k + 1 by omega, show i - 2 = k + 2 by omega, show i - 1 = k + 3 by omega, qk4, HX.out.1, HX.out.2.1, HX.out.2.2.1, HX.out.2.2.2, hy1, hy2, hy3, hy0])
              have HTT := Lib.hid (show turnStep 32 out t = t by unfold turnStep; rw [HOL.out, if_neg hm])
              clear hy0 hy1 hy2 hy3
              refine region_draws_tail 16 (by kernel_rfl) (by kernel_rfl) ?_
              simp only [List.take_succ_cons, List.take_zero, List.drop_succ_cons, List.drop_zero]
              repeat (go_big_quiet_step (fail))
              refine wpQuiet_nil ?_
              rintro _ ⟨nq, rfl⟩
              have h9n := h9.drewN nq
              go_wp2_with (first | ((refine wpList_store_arr rfl 97 (.tmp 9) (.tmp 89) rfl rfl rfl [y0, y1, y2, y3] rfl h9n 4 hX4l rfl (by kernel_rfl) ?_); intro w6 h96 hk6; obtain ⟨WD, hWD⟩ : ∃ WD : List UInt8, [y0, y1, y2, y3] = WD := ⟨_, rfl⟩; have hwl4 : WD.length = 4 := by rw [← hWD]; rfl
                                    rw [hWD] at HWD h96; clear hWD) | (with_reducible refine wpList_load_arr rfl 97 _ rfl rfl h96 4 hwl4 5 Tryd.underlying97 (by kernel_rfl) ?_))
              have hkx := (hk15.drewN nq).from hk6 (fun b e => by subst e; exact Nat.le_of_eq hT9)
              clear h96 hk6 h9n h9 hk5 hk15 hr5 d0 d1 d2 d3 e0 e1 e2 e3 l0 l1 l2 l3
              have HIX := Lib.hid (fun (j : Nat) (hj : j < 4) => run_index4 WD hwl4 j hj)
              have ho6 := HO.out.keeps hkx (fun _ _ h => h)
              have hr6 := HR.out.keeps hkx (fun h => h)
              have hk6w := HKR.out.trans hkx (fun _ _ h => h)
              clear hkx HO HR HKR HKA HZA HW4 HCELL hat
              go_loopw [91, 6] (fun u91 u6 wx => ∃ (j : Nat) (a' : Option Addr) (c' : Nat), j ≤ 4 ∧ u91 = .int .i64 j ∧ u6 = .slice a' (i + j) c' ∧ BOwn wx w.heap.size (.slice a' (i + j) c') (out ++ (List.range j).map (fun q => at8 WD q ^^^ at8 out (p + q))) ∧ ARow wx T5 boxL 95 ∧ Keeps (fun _ => False) w wx) (fun u91 _ _ => 4 - (intOf u91).toNat)
              case atStart => exact ⟨0, _, _, by omega, rfl, rfl, by simpa using ho6, hr6, hk6w⟩
              case round =>
                obtain ⟨j, a', c', hj4, rfl, rfl, hox, hrx, hkx⟩ := hrel
                clear ho6 hr6 hk6w
                have hlenj : (out ++ (List.range j).map (fun q => at8 WD q ^^^ at8 out (p + q))).length = i + j := by rw [List.length_append, HOL.out]; simp
                by_cases hjl : j < 4
                · obtain ⟨b9, o9, c9, e9, hc9, -, -, h9c⟩ := BAt.at8 hox.bat (by omega)
                  simp only [Value.slice.injEq] at e9
                  obtain ⟨rfl, -, rfl⟩ := e9
                  have hcj := h9c (p + j) (by rw [hlenj]; have := HIP.out; omega)
                  have hat8 : at8 (out ++ (List.range j).map (fun q => at8 WD q ^^^ at8 out (p + q))) (p + j) = at8 out (p + j) := by
                    unfold at8
                    rw [List.getD_eq_getElem?_getD, List.getD_eq_getElem?_getD, List.getElem?_append_left (by rw [HOL.out]; have := HIP.out; omega)]
                  rw [hat8] at hcj
                  have hxx := m8_xor (at8 WD j) (at8 out (p + j))
                  obtain ⟨z, hz⟩ : ∃ z, at8 WD j ^^^ at8 out (p + j) = z := ⟨_, rfl⟩
                  have hsn : out ++ (List.range (j + 1)).map (fun q => at8 WD q ^^^ at8 out (p + q)) = (out ++ (List.range j).map (fun q => at8 WD q ^^^ at8 out (p + q))) ++ [z] := by
                    rw [List.range_succ, List.map_append, ← List.append_assoc, ← hz]
                    rfl
                  rw [hz] at hxx
                  have hix := HIX.out j hjl
                  have HSN := Lib.hid hsn
                  have hlz : ((out ++ (List.range j).map (fun q => at8 WD q ^^^ at8 out (p + q))) ++ [z]).length = i + (j + 1) := by rw [List.length_append, hlenj]; rfl
                  have hbl := BAt.one wr (z.toNat : Int) z 5 rfl
                  have hka := (Keeps.refl (fun _ => False) wr).alloc (.cells #[.int .u8 (z.toNat : Int)] 5)
                  obtain ⟨v7, w7, hrun, hb7, hk7, -⟩ := run_append_bytes (ty := 25) (hox.keeps hka (fun _ _ h => h)) hbl (by rw [hlenj]; simp; omega) (by have := hka.size; have := hkx.size; omega)
                  obtain ⟨a7, c7, rfl, -, -⟩ := BOwn.slice hb7
                  rw [hlz] at hb7 hrun
                  have hr7 := (hrx.keeps hka (fun h => h)).keeps hk7 (fun e => hox.apart hrx (by decide) e)
                  have hk7w := (hkx.trans hka (fun _ _ h => h)).from hk7 (fun b hb => (hox.block b hb).1)
                  have HRUN := Lib.hid hrun
                  have HB7 := Lib.hid hb7
                  have HR7 := Lib.hid hr7
                  have HK7 := Lib.hid hk7w
                  have qb := i64_f ((p : Int) + (j : Int)) (by omega) (by omega)
                  have qt : ((p : Int) + (j : Int)).toNat = p + j := by omega
                  have ql : (p : Int) + (j : Int) < (i : Int) + (j : Int) := by have := HIP.out; omega
                  have q0 : (0 : Int) ≤ (p : Int) + (j : Int) := by omega
                  generalize at8 WD j = xa at *
                  generalize at8 out (p + j) = xb at *
                  clear hz hsn hlz hbl hka hrun hb7 hr7 hk7w hk7 hrx hkx hox hat8 h9c hlenj
                  go_wp2_with (at_builtin; refine Lib.wpList_append_run _ rfl _ _ _ _ rfl _ _ rfl rfl _ _ HRUN.out ?_)
                  go_roundw
                  case rel => exact ⟨j + 1, _, _, by omega, by go_num, rfl, by rw [HSN.out]; exact HB7.out, HR7.out, HK7.out⟩
                  case measure => simp [intOf]; omega
                · obtain rfl : j = 4 := by omega
                  have HOX := Lib.hid hox
                  have HRX := Lib.hid hrx
                  have HKX := Lib.hid hkx
                  have hfin : keysF 32 f (out ++ (List.range 4).map (fun q => at8 WD q ^^^ at8 out (p + q))) t = keysOf key := by
                    rw [← HF.out]
                    show _ = keysF 32 f (keyStep 32 out t) (turnStep 32 out t)
                    rw [HTT.out]
                    unfold keyStep
                    rw [HWD.out, HOL.out, show i - 32 = p by have := HIP.out; omega]
                  have HFIN := Lib.hid hfin
                  have hl9 : (out ++ (List.range 4).map (fun q => at8 WD q ^^^ at8 out (p + q))).length = i + 4 := hlenj
                  have hif2 : i + 4 + 4 * f = 240 := by omega
                  clear hox hrx hkx hfin hlenj
                  go_wp2
                  go_roundw
                  case rel => exact ⟨f, i + 4, _, t, _, _, rfl, rfl, by go_num, hl9, hif2, by omega, HOX.out, HRX.out, HFIN.out, HKX.out⟩
                  case measure => simp [intOf]; omega
          · have hmJ : ¬ (i : Int) % 32 = 16 := by omega
            clear hm2
            go_wp2_with (first | (with_reducible refine wpList_load_arrAt rfl 97 _ rfl g (off + k) rfl X4 4 hX4l HW4.out 5 Tryd.underlying97 (by kernel_rfl) ?_) | ((with_reducible refine wpList_store_arr rfl 97 _ _ rfl rfl rfl X4 rfl HZA.out 4 rfl hX4l (by kernel_rfl) ?_); intro w5 h9 hk5) | (with_reducible refine wpList_load_arr rfl 97 _ rfl rfl h9 4 hX4l 5 Tryd.underlying97 (by kernel_rfl) ?_))
            have hkx : Keeps (fun _ => False) wr w5 := HKA.out.from hk5 (fun b e => by subst e; exact Nat.le_refl _)
            have qk4 : i - 4 = k := by omega
            have HWD := Lib.hid (show keyWord 32 out t = X4 by
              unfold keyWord
              rw [HOL.out, if_neg hm, if_neg (by rintro ⟨_, h2⟩; omega), show i - 3 = k + 1 by omega, show i - 2 = k + 2 by omega, show i - 1 = k + 3 by omega, qk4, HX.out.1, HX.out.2.1, HX.out.2.2.1, HX.out.2.2.2, HX4E.out])
            have HTT := Lib.hid (show turnStep 32 out t = t by unfold turnStep; rw [HOL.out, if_neg hm])
            clear h9 hk5
            obtain ⟨WD, hWD⟩ : ∃ WD : List UInt8, X4 = WD := ⟨_, rfl⟩
            have hwl4 : WD.length = 4 := by rw [← hWD]; exact hX4l
            rw [hWD] at HWD ⊢
            clear hWD
            have HIX := Lib.hid (fun (j : Nat) (hj : j < 4) => run_index4 WD hwl4 j hj)
            have ho6 := HO.out.keeps hkx (fun _ _ h => h)
            have hr6 := HR.out.keeps hkx (fun h => h)
            have hk6w := HKR.out.trans hkx (fun _ _ h => h)
            clear hkx HO HR HKR HKA HZA HW4 HCELL hat
            go_loopw [91, 6] (fun u91 u6 wx => ∃ (j : Nat) (a' : Option Addr) (c' : Nat), j ≤ 4 ∧ u91 = .int .i64 j ∧ u6 = .slice a' (i + j) c' ∧ BOwn wx w.heap.size (.slice a' (i + j) c') (out ++ (List.range j).map (fun q => at8 WD q ^^^ at8 out (p + q))) ∧ ARow wx T5 boxL 95 ∧ Keeps (fun _ => False) w wx) (fun u91 _ _ => 4 - (intOf u91).toNat)
            case atStart => exact ⟨0, _, _, by omega, rfl, rfl, by simpa using ho6, hr6, hk6w⟩
            case round =>
              obtain ⟨j, a', c', hj4, rfl, rfl, hox, hrx, hkx⟩ := hrel
              clear ho6 hr6 hk6w
              have hlenj : (out ++ (List.range j).map (fun q => at8 WD q ^^^ at8 out (p + q))).length = i + j := by rw [List.length_append, HOL.out]; simp
              by_cases hjl : j < 4
              · obtain ⟨b9, o9, c9, e9, hc9, -, -, h9c⟩ := BAt.at8 hox.bat (by omega)
                simp only [Value.slice.injEq] at e9
                obtain ⟨rfl, -, rfl⟩ := e9
                have hcj := h9c (p + j) (by rw [hlenj]; have := HIP.out; omega)
                have hat8 : at8 (out ++ (List.range j).map (fun q => at8 WD q ^^^ at8 out (p + q))) (p + j) = at8 out (p + j) := by
                  unfold at8
                  rw [List.getD_eq_getElem?_getD, List.getD_eq_getElem?_getD, List.getElem?_append_left (by rw [HOL.out]; have := HIP.out; omega)]
                rw [hat8] at hcj
                have hxx := m8_xor (at8 WD j) (at8 out (p + j))
                obtain ⟨z, hz⟩ : ∃ z, at8 WD j ^^^ at8 out (p + j) = z := ⟨_, rfl⟩
                have hsn : out ++ (List.range (j + 1)).map (fun q => at8 WD q ^^^ at8 out (p + q)) = (out ++ (List.range j).map (fun q => at8 WD q ^^^ at8 out (p + q))) ++ [z] := by
                  rw [List.range_succ, List.map_append, ← List.append_assoc, ← hz]
                  rfl
                rw [hz] at hxx
                have hix := HIX.out j hjl
                have HSN := Lib.hid hsn
                have hlz : ((out ++ (List.range j).map (fun q => at8 WD q ^^^ at8 out (p + q))) ++ [z]).length = i + (j + 1) := by rw [List.length_append, hlenj]; rfl
                have hbl := BAt.one wr (z.toNat : Int) z 5 rfl
                have hka := (Keeps.refl (fun _ => False) wr).alloc (.cells #[.int .u8 (z.toNat : Int)] 5)
                obtain ⟨v7, w7, hrun, hb7, hk7, -⟩ := run_append_bytes (ty := 25) (hox.keeps hka (fun _ _ h => h)) hbl (by rw [hlenj]; simp; omega) (by have := hka.size; have := hkx.size; omega)
                obtain ⟨a7, c7, rfl, -, -⟩ := BOwn.slice hb7
                rw [hlz] at hb7 hrun
                have hr7 := (hrx.keeps hka (fun h => h)).keeps hk7 (fun e => hox.apart hrx (by decide) e)
                have hk7w := (hkx.trans hka (fun _ _ h => h)).from hk7 (fun b hb => (hox.block b hb).1)
                have HRUN := Lib.hid hrun
                have HB7 := Lib.hid hb7
                have HR7 := Lib.hid hr7
                have HK7 := Lib.hid hk7w
                have qb := i64_f ((p : Int) + (j : Int)) (by omega) (by omega)
                have qt : ((p : Int) + (j : Int)).toNat = p + j := by omega
                have ql : (p : Int) + (j : Int) < (i : Int) + (j : Int) := by have := HIP.out; omega
                have q0 : (0 : Int) ≤ (p : Int) + (j : Int) := by omega
                generalize at8 WD j = xa at *
                generalize at8 out (p + j) = xb at *
                clear hz hsn hlz hbl hka hrun hb7 hr7 hk7w hk7 hrx hkx hox hat8 h9c hlenj
                go_wp2_with (at_builtin; refine Lib.wpList_append_run _ rfl _ _ _ _ rfl _ _ rfl rfl _ _ HRUN.out ?_)
                go_roundw
                case rel => exact ⟨j + 1, _, _, by omega, by go_num, rfl, by rw [HSN.out]; exact HB7.out, HR7.out, HK7.out⟩
                case measure => simp [intOf]; omega
              · obtain rfl : j = 4 := by omega
                have HOX := Lib.hid hox
                have HRX := Lib.hid hrx
                have HKX := Lib.hid hkx
                have hfin : keysF 32 f (out ++ (List.range 4).map (fun q => at8 WD q ^^^ at8 out (p + q))) t = keysOf key := by
                  rw [← HF.out]
                  show _ = keysF 32 f (keyStep 32 out t) (turnStep 32 out t)
                  rw [HTT.out]
                  unfold keyStep
                  rw [HWD.out, HOL.out, show i - 32 = p by have := HIP.out; omega]
                have HFIN := Lib.hid hfin
                have hl9 : (out ++ (List.range 4).map (fun q => at8 WD q ^^^ at8 out (p + q))).length = i + 4 := hlenj
                have hif2 : i + 4 + 4 * f = 240 := by omega
                clear hox hrx hkx hfin hlenj
                go_wp2
                go_roundw
                case rel => exact ⟨f, i + 4, _, t, _, _, rfl, rfl, by go_num, hl9, hif2, by omega, HOX.out, HRX.out, HFIN.out, HKX.out⟩
                case measure => simp [intOf]; omega
end Go.Proofs.YtekaoknpjpbjgaaDoor
