/- Words, walks and plain laws that the claim leans on, part 4. -/
import Derived.Test.YtekaoknpjpbjgaaDoorM1
import Derived.Test.YtekaoknpjpbjgaaDoorM3
import Derived.Laws.Rows
import Derived.Laws.Tables
import Derived.Laws.BitsAllLaws

/-! Words for arrays of bytes that lie in a block; what the machine reckons on bytes. -/
namespace Go.Proofs.YtekaoknpjpbjgaaDoor
set_option linter.unusedVariables false
set_option linter.unusedSimpArgs false
open Go.RowKit

theorem m8_lt (x : UInt8) : x.toNat < 256 := x.toNat_lt
theorem m8_xor (x y : UInt8) : bits .xor .u8 (x.toNat : Int) (y.toNat : Int) = ((x ^^^ y).toNat : Int) := by
  rw [u8_xor_nat _ _ (m8_lt _) (m8_lt _), UInt8.toNat_xor]
theorem m8_or (x y : UInt8) : bits .or .u8 (x.toNat : Int) (y.toNat : Int) = ((x ||| y).toNat : Int) := by
  rw [u8_or_nat _ _ (m8_lt _) (m8_lt _), UInt8.toNat_or]
theorem m8_and (x y : UInt8) : bits .and .u8 (x.toNat : Int) (y.toNat : Int) = ((x &&& y).toNat : Int) := by
  rw [u8_and_nat _ _ (m8_lt _) (m8_lt _), UInt8.toNat_and]
theorem m8_shl (x : UInt8) (k : Nat) (hk : k < 8) : ((x.toNat : Int) * ((2 ^ k : Nat) : Int) % 256) = ((x <<< UInt8.ofNat k).toNat : Int) := by
  rw [UInt8.toNat_shiftLeft, UInt8.toNat_ofNat', Nat.mod_eq_of_lt (by omega : k < 2 ^ 8), Nat.mod_eq_of_lt hk, Nat.shiftLeft_eq]
  rw [← Int.natCast_mul]
  rfl
theorem m8_shr (x : UInt8) (k : Nat) (hk : k < 8) : ((x.toNat : Int) / ((2 ^ k : Nat) : Int)) = ((x >>> UInt8.ofNat k).toNat : Int) := by
  rw [UInt8.toNat_shiftRight, UInt8.toNat_ofNat', Nat.mod_eq_of_lt (by omega : k < 2 ^ 8), Nat.mod_eq_of_lt hk, Nat.shiftRight_eq_div_pow]
  rw [← Int.natCast_ediv]
/-- A mask of all bits, or none. -/
theorem m8_mask (b : Int) (y : UInt8) (hb : b = 0 ∨ b = 1) : bits .and .u8 (y.toNat : Int) (-b % 256) = ((if b = 1 then y else 0 : UInt8).toNat : Int) := by
  rcases hb with rfl | rfl
  · have := m8_and y 0
    simpa using this
  · have := m8_and y 255
    have e : y &&& 255 = y := by
      rw [← UInt8.toNat_inj, UInt8.toNat_and]
      have := m8_lt y
      show y.toNat &&& 2 ^ 8 - 1 = y.toNat
      rw [Nat.and_two_pow_sub_one_eq_mod]
      exact Nat.mod_eq_of_lt this
    rw [e] at this
    simpa using this
theorem bcells_at (l : List UInt8) (i : Nat) (h : i < l.length) : (bcells l)[i]? = some (.int .u8 ((at8 l i).toNat : Int)) := by
  rw [bcells_get h]
  unfold at8
  rw [List.getD_eq_getElem?_getD, List.getElem?_eq_getElem h]
  rfl

/-- Block b holds this array of bytes. -/
def ARow (w : World) (b : Nat) (l : List UInt8) (T : TypeId) : Prop := RowAt w b (bcells l).toArray T
variable {w w' : World} {b : Nat} {l : List UInt8} {T : TypeId}
theorem ARow.keeps {S : Nat → Prop} (h : ARow w b l T) (hk : Keeps S w w') (hS : ¬ S b) : ARow w' b l T := RowAt.keeps h hk hS
theorem ARow.drewN (h : ARow w b l T) (n : Nat) : ARow (w.drewN n) b l T := h
theorem ARow.lt (h : ARow w b l T) : b < w.heap.size := RowAt.lt h
theorem ARow.cell (h : ARow w b l T) (i : Nat) (hi : i < l.length) : w.cell? ⟨b, i, none⟩ = some (.int .u8 ((at8 l i).toNat : Int)) := by
  rw [RowAt.cell h, List.getElem?_toArray, bcells_at l i hi]
theorem ARow.frozen (h : ARow w b l T) (i : Nat) : w.frozen? ⟨b, i, none⟩ = false := RowAt.frozen h i
theorem ARow.set (h : ARow w b l T) (i : Nat) (x : UInt8) : ARow (w.setCell ⟨b, i, none⟩ (.int .u8 (x.toNat : Int))) b (l.set i x) T := by
  refine (RowAt.set h i _).eq ?_
  rw [List.setIfInBounds_toArray]
  simp [bcells, bcell, List.map_set]
theorem ARow.setOther (h : ARow w b l T) (a : Addr) (v : Value) (hne : b ≠ a.block) : ARow (w.setCell a v) b l T := RowAt.setOther h a v hne
theorem ARow.alloc (h : ARow w b l T) (o : Obj) : ARow (w.alloc o) b l T := RowAt.alloc h o
theorem ARow.new (w : World) (l : List UInt8) (T : TypeId) : ARow (w.alloc (.cells (bcells l).toArray T)) w.heap.size l T := RowAt.new w _ _
theorem ARow.of {cs : Array Value} (h : RowAt w b cs T) (e : cs = (bcells l).toArray) : ARow w b l T := h.eq e
theorem ARow.read (h : ARow w b l T) (hl : l.length ≤ 1099511627776) : BAt w (fun c => c = b) (.slice (some ⟨b, 0, none⟩) l.length l.length) l := by
  refine ⟨by simp [bcells_length], some ⟨b, 0, none⟩, l.length, rfl, Nat.le_refl _, by simp only [maxLen]; omega, .inr ⟨b, 0, rfl, rfl, fun j u hu => ?_⟩⟩
  rw [RowAt.cell h, Nat.zero_add, List.getElem?_toArray]
  exact hu
theorem bcells_all (l : List UInt8) : ((bcells l).toArray).all (·.oneCell') = true := by
  rw [Array.all_eq_true_iff_forall_mem]
  intro v hv
  exact bcells_one l v (by simpa using hv)
theorem Keeps.setRow {S : Nat → Prop} {a w : World} {g : Nat} {cs : Array Value} (h : Keeps S a w) (hg : S g ∨ a.heap.size ≤ g) : Keeps S a (w.setRow g cs) :=
  ⟨h.os, h.tape, h.output, by rw [size_setRow]; exact h.size, fun k hk hn => (setRow_other w g k cs (by
    rintro rfl
    rcases hg with hg | hg
    · exact hn hg
    · omega)).trans (h.block k hk hn)⟩

section
variable {P : Program} {ops : Array Oper} {rest : List Oper} {o : Oper} {a : Act} {Q : Exit → Act → World → Prop}
/-- The whole array is read. -/
theorem wpList_load_arr (hgd : o.guard = none) (ty : TypeId) (x : Operand) (ho : o.op = .load ty x) (hx : a.eval x = .pointer (some ⟨b, 0, none⟩)) (h : ARow w b l T) (n : Nat) (hn : l.length = n) (e : TypeId)
    (hu : P.underlying ty = some (.array n e)) (hi : (P.info? ty).map (·.size) = some n) (hK : wpList P ops Q rest (a.put o.dst (.agg (bcells l).toArray)) w) : wpList P ops Q (o :: rest) a w :=
  wpList_load_row hgd ty x ho b hx T _ (0, 0) _ h hu rfl (by rw [hi]; simp [bcells_length, hn]) hK
/-- The whole array is written. -/
theorem wpList_store_arr (hgd : o.guard = none) (ty : TypeId) (x y : Operand) (ho : o.op = .store ty x y) (hd : o.dst = none) (hx : a.eval x = .pointer (some ⟨b, 0, none⟩)) (m : List UInt8) (hy : a.eval y = .agg (bcells m).toArray) (h : ARow w b l T)
    (n : Nat) (hn : l.length = n) (hm : m.length = n) (hi : (P.info? ty).map (·.size) = some n)
    (hK : ∀ w', ARow w' b m T → Keeps (· = b) w w' → wpList P ops Q rest a w') : wpList P ops Q (o :: rest) a w := by
  refine wpList_store_row hgd ty x y ho b _ hx hy T _ h (by rw [hi]; simp [bcells_length, hm]) (by simp [bcells_length, hn, hm]) (bcells_all m) ?_
  rw [hd]
  exact hK _ (setRow_heap w b _ _ T (0, 0) h) ((Keeps.refl _ _).setRow (.inl rfl))
end
theorem results_arr {P : Program} {fn : Func} {p : Tmp} {ty : TypeId} (h : fn.results = #[.cell p ty]) (tmps : Array Value) (n : Nat) (e : TypeId) (hp : tmps.getD p undef = .pointer (some ⟨b, 0, none⟩)) (hr : ARow w b l T) (hn : l.length = n)
    (hu : P.underlying ty = some (.array n e)) (hi : (P.info? ty).map (·.size) = some n) : (results fn tmps).run P w = .ok (.agg (bcells l).toArray) w :=
  results_cell_row h tmps w b T _ (0, 0) _ hp hr hu rfl (by rw [hi]; simp [bcells_length, hn])
end Go.Proofs.YtekaoknpjpbjgaaDoor

/-! The program's AES: bytes, the table of Box. -/
namespace Go.Proofs.YtekaoknpjpbjgaaDoor
set_option linter.unusedVariables false
set_option linter.unusedSimpArgs false
open Go.RowKit

theorem dbl_m (x : UInt8) : bits .xor .u8 ((x.toNat : Int) * 2 % 256) (bits .and .u8 27 (-((x.toNat : Int) / 128) % 256)) = ((dbl x).toNat : Int) := by
  have hx := m8_lt x
  have h1 := m8_shl x 1 (by omega)
  have h2 := m8_mask ((x.toNat : Int) / 128) 27 (by omega)
  have e27 : ((27 : UInt8).toNat : Int) = 27 := rfl
  rw [e27] at h2
  rw [h2]
  have h1' : (x.toNat : Int) * (2 : Int) % (256 : Int) = ((x <<< 1).toNat : Int) := h1
  rw [h1', m8_xor]
  have e : (if (x.toNat : Int) / 128 = 1 then (27 : UInt8) else 0) = if 128 ≤ x then 27 else 0 := by
    have : (x.toNat : Int) / 128 = 1 ↔ 128 ≤ x := by
      rw [UInt8.le_iff_toNat_le]
      show _ ↔ 128 ≤ x.toNat
      omega
    simp only [this]
  rw [e]
  rfl
set_option maxRecDepth 100000 in
theorem double_any (x : UInt8) (w : World) : Calls Tryd.prog 65 #[.int .u8 (x.toNat : Int)] w fun e w' => e = .returned (.int .u8 ((dbl x).toNat : Int)) ∧ w = w' := by
  have hx := x.toNat_lt
  go_enter Tryd.func65, Tryd.ntmps65
  go_wp2
  go_ret
  exact ⟨ret_int (dbl_m x), rfl⟩
theorem rot_m (x : UInt8) (k : Nat) (h1 : 1 ≤ k) (h2 : k ≤ 7) : bits .or .u8 ((x.toNat : Int) * ((2 ^ k : Nat) : Int) % 256) ((x.toNat : Int) / ((2 ^ (8 - k) : Nat) : Int)) = ((rotl x (UInt8.ofNat k)).toNat : Int) := by
  rw [m8_shl x k (by omega), m8_shr x (8 - k) (by omega), m8_or]
  unfold rotl
  have : (8 : UInt8) - UInt8.ofNat k = UInt8.ofNat (8 - k) := by
    obtain rfl | rfl | rfl | rfl | rfl | rfl | rfl : k = 1 ∨ k = 2 ∨ k = 3 ∨ k = 4 ∨ k = 5 ∨ k = 6 ∨ k = 7 := by omega
    all_goals rfl
  rw [this]
set_option maxRecDepth 100000 in
theorem rot8_any (x : UInt8) (n : Nat) (h1 : 1 ≤ n) (h2 : n ≤ 4) (w : World) : Calls Tryd.prog 78 #[.int .u8 (x.toNat : Int), .int .i64 n] w fun e w' => e = .returned (.int .u8 ((rotl x (UInt8.ofNat n)).toNat : Int)) ∧ w = w' := by
  have hx := x.toNat_lt
  have hm := rot_m x n h1 (by omega)
  have a1 : bits .and .u64 1 7 = 1 := by kernel_rfl
  have a2 : bits .and .u64 2 7 = 2 := by kernel_rfl
  have a3 : bits .and .u64 3 7 = 3 := by kernel_rfl
  have a4 : bits .and .u64 4 7 = 4 := by kernel_rfl
  obtain rfl | rfl | rfl | rfl : n = 1 ∨ n = 2 ∨ n = 3 ∨ n = 4 := by omega
  all_goals
    have HM := Lib.hid hm
    clear hm h1 h2
    go_enter Tryd.func78, Tryd.ntmps78
    go_wp2
    go_ret
    exact ⟨ret_int HM.out, rfl⟩
theorem rot8_1 (x : UInt8) (w : World) : Calls Tryd.prog 78 #[.int .u8 (x.toNat : Int), .int .i64 1] w fun e w' => e = .returned (.int .u8 ((rotl x 1).toNat : Int)) ∧ w = w' := rot8_any x 1 (by omega) (by omega) w
theorem rot8_2 (x : UInt8) (w : World) : Calls Tryd.prog 78 #[.int .u8 (x.toNat : Int), .int .i64 2] w fun e w' => e = .returned (.int .u8 ((rotl x 2).toNat : Int)) ∧ w = w' := rot8_any x 2 (by omega) (by omega) w
theorem rot8_3 (x : UInt8) (w : World) : Calls Tryd.prog 78 #[.int .u8 (x.toNat : Int), .int .i64 3] w fun e w' => e = .returned (.int .u8 ((rotl x 3).toNat : Int)) ∧ w = w' := rot8_any x 3 (by omega) (by omega) w
theorem rot8_4 (x : UInt8) (w : World) : Calls Tryd.prog 78 #[.int .u8 (x.toNat : Int), .int .i64 4] w fun e w' => e = .returned (.int .u8 ((rotl x 4).toNat : Int)) ∧ w = w' := rot8_any x 4 (by omega) (by omega) w
theorem and1_m (y : UInt8) : bits .and .u8 (y.toNat : Int) 1 = ((y &&& 1).toNat : Int) := m8_and y 1
theorem and1_bit (y : UInt8) : ((y &&& 1).toNat : Int) = 0 ∨ ((y &&& 1).toNat : Int) = 1 := by
  rw [UInt8.toNat_and]
  show (((y.toNat &&& 2 ^ 1 - 1 : Nat)) : Int) = 0 ∨ (((y.toNat &&& 2 ^ 1 - 1 : Nat)) : Int) = 1
  rw [Nat.and_two_pow_sub_one_eq_mod]
  omega
theorem timesF_stop : ∀ (n : Nat) (o a : UInt8), timesF n o a 0 = o
  | 0, _, _ => rfl
  | n + 1, o, a => by
    have e1 : ¬ ((0 : UInt8) &&& 1 = 1) := by decide
    have e2 : (0 : UInt8) >>> 1 = 0 := by decide
    show timesF n (if (0 : UInt8) &&& 1 = 1 then o ^^^ a else o) (dbl a) ((0 : UInt8) >>> 1) = o
    rw [if_neg e1, e2, timesF_stop n]
theorem step_m (o a b : UInt8) : bits .xor .u8 (o.toNat : Int) (bits .and .u8 (a.toNat : Int) (-(bits .and .u8 (b.toNat : Int) 1) % 256)) = ((if b &&& 1 = 1 then o ^^^ a else o : UInt8).toNat : Int) := by
  rw [and1_m, m8_mask _ a (and1_bit b), m8_xor]
  have : (((b &&& 1).toNat : Int) = 1) ↔ b &&& 1 = 1 := by
    rw [← UInt8.toNat_inj]
    show _ ↔ (b &&& 1).toNat = 1
    omega
  simp only [this]
  split
  · rfl
  · simp
set_option maxRecDepth 100000 in
theorem times_any (x y : UInt8) (w : World) : Calls Tryd.prog 79 #[.int .u8 (x.toNat : Int), .int .u8 (y.toNat : Int)] w fun e w' => e = .returned (.int .u8 ((timesF 8 0 x y).toNat : Int)) ∧ w = w' := by
  go_enter Tryd.func79, Tryd.ntmps79
  go_wp2
  go_loop [5, 0, 1] (fun u5 u0 u1 => ∃ (n : Nat) (o a b : UInt8), u5 = .int .u8 (o.toNat : Int) ∧ u0 = .int .u8 (a.toNat : Int) ∧ u1 = .int .u8 (b.toNat : Int) ∧ b.toNat < 2 ^ n ∧ timesF 8 0 x y = timesF n o a b) (fun _ _ u1 => (intOf u1).toNat)
  case atStart => exact ⟨8, 0, x, y, rfl, rfl, rfl, m8_lt y, rfl⟩
  case round =>
    obtain ⟨n, o, a, b, rfl, rfl, rfl, hb, hT⟩ := hrel
    have hlt := m8_lt b
    have HT := Lib.hid hT
    clear hT
    by_cases h0 : b.toNat = 0
    · go_wp2
      go_ret
      refine ⟨ret_int ?_, rfl⟩
      obtain rfl : b = 0 := UInt8.toNat_inj.1 h0
      rw [HT.out, timesF_stop]
    · have hs := step_m o a b
      have hsh := m8_shr b 1 (by omega)
      have hsh' : ((b.toNat : Int) / 2) = ((b >>> 1).toNat : Int) := hsh
      have hb2 : (b >>> 1).toNat = b.toNat / 2 := by omega
      have HS := Lib.hid hs
      have HB := Lib.hid hb2
      clear hs hsh hsh' hb2
      have hpos : (0 : Int) < (b.toNat : Int) := by omega
      go_wp2_with (go_at_call 65; refine (double_any _ _).mono ?_; rintro e w' ⟨rfl, rfl⟩)
      go_round
      case rel =>
        cases n with
        | zero => omega
        | succ n =>
          refine ⟨n, if b &&& 1 = 1 then o ^^^ a else o, dbl a, b >>> 1, ?_, rfl, ?_, ?_, HT.out⟩
          · rw [HS.out]
          · rw [HB.out]; simp
          · rw [HB.out]; rw [Nat.pow_succ] at hb; omega
      case measure => simp [intOf]; omega
theorem times_f6 (x : UInt8) (w : World) : Calls Tryd.prog 79 #[.int .u8 (x.toNat : Int), .int .u8 246] w fun e w' => e = .returned (.int .u8 ((tf6 x).toNat : Int)) ∧ w = w' := times_any x 246 w
theorem zero256 : Tryd.zeroCells95 = (bcells (List.replicate 256 0)).toArray := by kernel_rfl
theorem box_m (b : UInt8) : bits .xor .u8 (bits .xor .u8 (bits .xor .u8 (bits .xor .u8 (bits .xor .u8 (b.toNat : Int) ((rotl b 1).toNat : Int)) ((rotl b 2).toNat : Int)) ((rotl b 3).toNat : Int)) ((rotl b 4).toNat : Int)) 99 = ((affine b).toNat : Int) := by
  rw [m8_xor, m8_xor, m8_xor, m8_xor]
  exact m8_xor _ 99
set_option maxRecDepth 100000 in
theorem boxes_any (w : World) : Calls Tryd.prog 63 #[] w fun e w' => e = .returned (.agg (bcells boxL).toArray) ∧ Keeps (fun _ => False) w w' := by
  go_enter Tryd.func63, Tryd.ntmps63
  go_wp2
  rw [zero256]
  have h0 : ARow ((w.alloc (.cells (bcells (List.replicate 256 0)).toArray 95)).alloc (.cells (bcells (List.replicate 256 0)).toArray 95)) w.heap.size (List.replicate 256 0) 95 := (ARow.new w _ _).alloc _
  have h1 := ARow.new (w.alloc (.cells (bcells (List.replicate 256 0)).toArray 95)) (List.replicate 256 0) 95
  have hsz : (w.alloc (.cells (bcells (List.replicate 256 0)).toArray 95)).heap.size = w.heap.size + 1 := Array.size_push _
  rw [hsz] at h1
  have hk := ((Keeps.refl (fun _ => False) w).alloc (.cells (bcells (List.replicate 256 0)).toArray 95)).alloc (.cells (bcells (List.replicate 256 0)).toArray 95)
  generalize (w.alloc (.cells (bcells (List.replicate 256 0)).toArray 95)).alloc (.cells (bcells (List.replicate 256 0)).toArray 95) = W at *
  clear hsz
  go_loopw [5, 2, 3] (fun u5 u2 u3 wr => ∃ k : Nat, k ≤ 255 ∧ u5 = .int .i64 k ∧ u2 = .int .u8 ((boxS k).p.toNat : Int) ∧ u3 = .int .u8 ((boxS k).q.toNat : Int) ∧ ARow wr w.heap.size (List.replicate 256 0) 95 ∧ ARow wr (w.heap.size + 1) (boxS k).o 95 ∧ Keeps (fun _ => False) w wr) (fun u5 _ _ _ => 255 - (intOf u5).toNat)
  case atStart => exact ⟨0, by omega, rfl, rfl, rfl, h0, h1, hk⟩
  case round =>
    obtain ⟨k, hk255, rfl, rfl, rfl, h0r, h1r, hkr⟩ := hrel
    clear h0 h1 hk
    by_cases hlt : k < 255
    · obtain ⟨o, p, q, hb⟩ : ∃ o p q, boxS k = ⟨o, p, q⟩ := ⟨_, _, _, rfl⟩
      have hol := boxS_len k
      rw [hb] at h1r hol
      simp only at h1r hol
      have hs : boxS (k + 1) = ⟨o.set p.toNat (affine q), dbl p ^^^ p, tf6 q⟩ := by
        show boxStep (boxS k) = _
        rw [hb]; rfl
      have hpl := m8_lt p
      have c0 := h1r.cell p.toNat (by omega)
      have f0 := h1r.frozen p.toNat
      have h2 := h1r.set p.toNat (affine q)
      have hbm := box_m q
      have hxm := m8_xor (dbl p) p
      rw [hb]
      have HS := Lib.hid hs
      have H2 := Lib.hid h2
      have HB := Lib.hid hbm
      have HX := Lib.hid hxm
      clear hs h2 hbm hxm hb
      dsimp only
      go_wp2_with fail
      refine (rot8_1 q _).mono ?_
      rintro e w' ⟨rfl, rfl⟩
      go_wp2_with fail
      refine (rot8_2 q _).mono ?_
      rintro e w' ⟨rfl, rfl⟩
      go_wp2_with fail
      refine (rot8_3 q _).mono ?_
      rintro e w' ⟨rfl, rfl⟩
      go_wp2_with fail
      refine (rot8_4 q _).mono ?_
      rintro e w' ⟨rfl, rfl⟩
      go_wp2_with fail
      rw [HB.out]
      refine (double_any p _).mono ?_
      rintro e w' ⟨rfl, rfl⟩
      go_wp2_with fail
      refine (times_f6 q _).mono ?_
      rintro e w' ⟨rfl, rfl⟩
      go_wp2_with fail
      have hk2 : Keeps (fun _ => False) w (wr.setCell ⟨w.heap.size + 1, p.toNat, none⟩ (.int .u8 ((affine q).toNat : Int))) := hkr.setCell _ _ (.inr (Nat.le_succ _))
      have h02 : ARow (wr.setCell ⟨w.heap.size + 1, p.toNat, none⟩ (.int .u8 ((affine q).toNat : Int))) w.heap.size (List.replicate 256 0) 95 := h0r.setOther _ _ (by simp)
      go_roundw
      case rel => exact ⟨k + 1, by omega, by go_num, by rw [HS.out, HX.out], by rw [HS.out], h02, by rw [HS.out]; exact H2.out, hk2⟩
      case measure => simp [intOf]; omega
    · obtain rfl : k = 255 := by omega
      have hol := boxS_len 255
      have e2 : (boxS 255).o.set 0 99 = boxL := rfl
      generalize boxS 255 = B at *
      have c0 := h1r.cell 0 (by omega)
      have f0 := h1r.frozen 0
      have h2 : ARow (wr.setCell ⟨w.heap.size + 1, 0, none⟩ (.int .u8 99)) (w.heap.size + 1) (B.o.set 0 99) 95 := h1r.set 0 99
      rw [e2] at h2
      have h02 := h0r.setOther ⟨w.heap.size + 1, 0, none⟩ (.int .u8 99) (by simp)
      have hk2 := hkr.setCell ⟨w.heap.size + 1, 0, none⟩ (.int .u8 99) (.inr (Nat.le_succ _))
      have H2 := Lib.hid h2
      have H02 := Lib.hid h02
      have HK2 := Lib.hid hk2
      clear h2 h02 hk2 e2
      have hL := boxL_len
      go_wp2_with (first | (with_reducible refine wpList_load_arr rfl 95 _ rfl rfl H2.out 256 hL 5 Tryd.underlying95 (by kernel_rfl) ?_) | ((with_reducible refine wpList_store_arr rfl 95 _ _ rfl rfl rfl boxL rfl H02.out 256 List.length_replicate hL (by kernel_rfl) ?_); intro w5 hr5 hk5))
      refine bodyPost_ret (v := .agg (bcells boxL).toArray) (results_arr rfl _ 256 5 rfl hr5 hL Tryd.underlying95 (by kernel_rfl)) rfl ⟨rfl, HK2.out.from hk5 (fun b e => Nat.le_of_eq e.symm)⟩
end Go.Proofs.YtekaoknpjpbjgaaDoor
