/- Words, walks and plain laws that the claim leans on, part 31. -/
import Derived.Test.YtekaoknpjpbjgaaDoorM3
import Derived.Test.YtekaoknpjpbjgaaDoorM10
import Derived.Test.YtekaoknpjpbjgaaDoorM23
import Derived.Test.YtekaoknpjpbjgaaDoorM26
import Derived.Test.YtekaoknpjpbjgaaDoorM30

/-! esp.Open. -/
namespace Go.Proofs.YtekaoknpjpbjgaaDoor
set_option linter.unusedVariables false
set_option linter.unusedSimpArgs false
open Go.RowKit

def rPair (l : List UInt8) : Rel := ⟨fun u w => ∃ v, u = .tuple #[v, .int .i64 0] ∧ BRd w v l, fun _ _ _ ⟨v, h1, h2⟩ hk => ⟨v, h1, h2.keeps hk⟩⟩
theorem shapeE_cases (sa : SaV) (seq : Nat) (b : List UInt8) : shapeE sa seq b = 1 ∨ shapeE sa seq b = 8 ∨ shapeE sa seq b = 4 ∨ (shapeE sa seq b = 0 ∧ okN sa seq = true ∧ 36 ≤ b.length ∧ b.length % 4 = 0) := by
  unfold shapeE
  by_cases h1 : okN sa seq = false
  · rw [if_pos h1]; exact .inl rfl
  · rw [if_neg h1]
    by_cases h2 : b.length < 36
    · rw [if_pos h2]; exact .inr (.inl rfl)
    · rw [if_neg h2]
      by_cases h3 : b.length % 4 ≠ 0 ∨ (val4 b : Int) ≠ sa.spi ∨ val4 (b.drop 4) ≠ seq % 4294967296
      · rw [if_pos h3]; exact .inr (.inr (.inl rfl))
      · rw [if_neg h3]; exact .inr (.inr (.inr ⟨rfl, by simpa using h1, by omega, by omega⟩))
theorem openS_bad (sa : SaV) (seq : Nat) (b : List UInt8) (h : shapeE sa seq b ≠ 0) : openS sa seq b = (shapeE sa seq b, [], 0) := by
  unfold shapeE openS at *
  by_cases h1 : okN sa seq = false
  · rw [if_pos h1, if_pos h1]
  · rw [if_neg h1, if_neg h1]
    rw [if_neg h1] at h
    by_cases h2 : b.length < 36
    · rw [if_pos h2, if_pos h2]
    · rw [if_neg h2, if_neg h2]
      rw [if_neg h2] at h
      by_cases h3 : b.length % 4 ≠ 0 ∨ (val4 b : Int) ≠ sa.spi ∨ val4 (b.drop 4) ≠ seq % 4294967296
      · rw [if_pos h3, if_pos h3]
      · rw [if_neg h3] at h; exact absurd rfl h
theorem openS_on (sa : SaV) (seq : Nat) (b : List UInt8) (h : shapeE sa seq b = 0) : openS sa seq b =
    if b.drop (b.length - 16) ≠ tagS sa seq (b.take (b.length - 16)) then ((110 : Int), [], 0)
    else match padOpen (turnOf sa.key sa.salt ((b.drop 8).take 8) ((b.take (b.length - 16)).drop 16)) with
      | some (d, x) => (0, d, x.toNat)
      | none => (130, [], 0) := by
  unfold shapeE openS at *
  by_cases h1 : okN sa seq = false
  · rw [if_pos h1] at h; exact absurd h (by decide)
  · rw [if_neg h1]
    rw [if_neg h1] at h
    by_cases h2 : b.length < 36
    · rw [if_pos h2] at h; exact absurd h (by decide)
    · rw [if_neg h2]
      rw [if_neg h2] at h
      by_cases h3 : b.length % 4 ≠ 0 ∨ (val4 b : Int) ≠ sa.spi ∨ val4 (b.drop 4) ≠ seq % 4294967296
      · rw [if_pos h3] at h; exact absurd h (by decide)
      · rw [if_neg h3]
        rfl

theorem ix_of (k : Nat) (v : Value) (hk : k < 3) (h : (#[.int .i64 1, .int .i64 8, .int .i64 4] : Array Value)[k]? = some v) (w : World) : (Instr.index 59 (.agg #[.int .i64 1, .int .i64 8, .int .i64 4]) (.int .i64 (k : Int))).run Tryd.prog w = .ok v w :=
  run_index_row Tryd.underlying59 hk Tryd.underlying29 rfl (by kernel_rfl) h w
set_option maxRecDepth 100000 in
set_option maxHeartbeats 1000000 in
theorem open_bad (sa : SaV) (seq : Nat) (bv : Value) (b : List UInt8) (w : World) (hb : BRd w bv b) (hs : seq < 18446744073709551616) (h : shapeE sa seq b ≠ 0) :
    Calls Tryd.prog 17 #[.agg (saC sa), .int .u64 seq, bv] w fun e w' => e = .returned (.tuple #[.slice none 0 0, .int .i64 0, .int .i64 (shapeE sa seq b)]) ∧ Keeps (fun _ => False) w w' := by
  have ix0 : ∀ w, (Instr.index 59 (.agg #[.int .i64 1, .int .i64 8, .int .i64 4]) (.int .i64 0)).run Tryd.prog w = .ok (.int .i64 1) w := ix_of 0 _ (by decide) rfl
  have ix1 : ∀ w, (Instr.index 59 (.agg #[.int .i64 1, .int .i64 8, .int .i64 4]) (.int .i64 1)).run Tryd.prog w = .ok (.int .i64 8) w := ix_of 1 _ (by decide) rfl
  have ix2 : ∀ w, (Instr.index 59 (.agg #[.int .i64 1, .int .i64 8, .int .i64 4]) (.int .i64 2)).run Tryd.prog w = .ok (.int .i64 4) w := ix_of 2 _ (by decide) rfl
  have hka := (Keeps.refl (fun _ => False) w).alloc (.cells (saC sa) 23)
  have hra := RowAt.new w (saC sa) 23
  have HSH := Lib.hid (shape_any sa seq bv b (w.alloc (.cells (saC sa) 23)) (BRd.keeps hb hka) hs)
  have hc := shapeE_cases sa seq b
  generalize shapeE sa seq b = E at *
  obtain ⟨ba, bc, rfl, -, -⟩ := BAt.slice hb
  obtain ⟨spi, key, salt, mac, esn, window⟩ := sa
  unfold saC at hka hra HSH ⊢
  simp only at hka hra HSH ⊢
  have HKA := Lib.hid hka
  clear hka hra hb hs
  rcases hc with rfl | rfl | rfl | ⟨rfl, -⟩
  · rw [show errV 1 = .iface 29 (.int .i64 1) from rfl] at HSH
    go_enter Tryd.func17, Tryd.ntmps17
    go_wp2_with fail
    refine HSH.out.mono ?_
    rintro e w1 ⟨rfl, hk1⟩
    have HK := Lib.hid (HKA.out.trans hk1 (fun _ _ h => h))
    clear HSH
    go_wp2
    refine wp_loop_rounds 1 ?_
    rw [rounds_succ]
    go_wp2_with (go_at_call 38; refine (is_num _ _ _).mono ?_; rintro e w' ⟨rfl, rfl⟩)
    refine bodyPost_ret (results_tmp3 rfl _ _ _) rfl ?_
    exact ⟨rfl, HK.out⟩
  · rw [show errV 8 = .iface 29 (.int .i64 8) from rfl] at HSH
    go_enter Tryd.func17, Tryd.ntmps17
    go_wp2_with fail
    refine HSH.out.mono ?_
    rintro e w1 ⟨rfl, hk1⟩
    have HK := Lib.hid (HKA.out.trans hk1 (fun _ _ h => h))
    clear HSH
    go_wp2
    refine wp_loop_rounds 2 ?_
    rw [rounds_succ]
    go_wp2_with (go_at_call 38; refine (is_num _ _ _).mono ?_; rintro e w' ⟨rfl, rfl⟩)
    rw [rounds_succ]
    go_wp2_with (go_at_call 38; refine (is_num _ _ _).mono ?_; rintro e w' ⟨rfl, rfl⟩)
    refine bodyPost_ret (results_tmp3 rfl _ _ _) rfl ?_
    exact ⟨rfl, HK.out⟩
  · rw [show errV 4 = .iface 29 (.int .i64 4) from rfl] at HSH
    go_enter Tryd.func17, Tryd.ntmps17
    go_wp2_with fail
    refine HSH.out.mono ?_
    rintro e w1 ⟨rfl, hk1⟩
    have HK := Lib.hid (HKA.out.trans hk1 (fun _ _ h => h))
    clear HSH
    go_wp2
    refine wp_loop_rounds 3 ?_
    rw [rounds_succ]
    go_wp2_with (go_at_call 38; refine (is_num _ _ _).mono ?_; rintro e w' ⟨rfl, rfl⟩)
    rw [rounds_succ]
    go_wp2_with (go_at_call 38; refine (is_num _ _ _).mono ?_; rintro e w' ⟨rfl, rfl⟩)
    rw [rounds_succ]
    go_wp2_with (go_at_call 38; refine (is_num _ _ _).mono ?_; rintro e w' ⟨rfl, rfl⟩)
    refine bodyPost_ret (results_tmp3 rfl _ _ _) rfl ?_
    exact ⟨rfl, HK.out⟩
  · exact absurd rfl h

def OpenE (sa : SaV) (seq : Nat) (b : List UInt8) (w : World) (e : Ending) (w' : World) : Prop :=
  ∃ v, e = .returned (.tuple #[v, .int .i64 ((openS sa seq b).2.2 : Nat), .int .i64 (openS sa seq b).1]) ∧ BOwn w' w.heap.size v (openS sa seq b).2.1 ∧ Keeps (fun _ => False) w w'
set_option maxRecDepth 100000 in
set_option maxHeartbeats 2000000 in
theorem open_good (sa : SaV) (seq : Nat) (bv : Value) (b : List UInt8) (w : World) (hb : BRd w bv b) (hs : seq < 18446744073709551616) (h : shapeE sa seq b = 0) (hbl : b.length ≤ 65000) (hT : Table w) :
    Calls Tryd.prog 17 #[.agg (saC sa), .int .u64 seq, bv] w (OpenE sa seq b w) := by
  have ix0 : ∀ w, (Instr.index 59 (.agg #[.int .i64 1, .int .i64 8, .int .i64 4]) (.int .i64 0)).run Tryd.prog w = .ok (.int .i64 1) w := ix_of 0 _ (by decide) rfl
  have ix1 : ∀ w, (Instr.index 59 (.agg #[.int .i64 1, .int .i64 8, .int .i64 4]) (.int .i64 1)).run Tryd.prog w = .ok (.int .i64 8) w := ix_of 1 _ (by decide) rfl
  have ix2 : ∀ w, (Instr.index 59 (.agg #[.int .i64 1, .int .i64 8, .int .i64 4]) (.int .i64 2)).run Tryd.prog w = .ok (.int .i64 4) w := ix_of 2 _ (by decide) rfl
  have hka := (Keeps.refl (fun _ => False) w).alloc (.cells (saC sa) 23)
  have hra := RowAt.new w (saC sa) 23
  have HSH := Lib.hid (shape_any sa seq bv b (w.alloc (.cells (saC sa) 23)) (BRd.keeps hb hka) hs)
  have hc := shapeE_cases sa seq b
  rw [h] at hc HSH
  rw [show errV 0 = .nilIface from rfl] at HSH
  obtain ⟨-, hok, h36, -⟩ : (0 : Int) = 0 ∧ okN sa seq = true ∧ 36 ≤ b.length ∧ b.length % 4 = 0 := by
    rcases hc with hc | hc | hc | hc
    · cases hc
    · cases hc
    · cases hc
    · exact hc
  have hO := openS_on sa seq b h
  clear hc h
  have hmy : mayS sa = true := by
    unfold okN at hok
    simp only [Bool.and_eq_true] at hok
    exact hok.1.1
  obtain ⟨-, -, hkl, hsl, hml, -, -⟩ := (mayS_iff sa).1 hmy
  have HTG := Lib.hid (fun (v : Value) (b : List UInt8) (w : World) (h1 : BRd w v b) (h2 : b.length ≤ 9000000) (h3 : Table w) => tagsa_any sa seq v b w h1 hml h2 h3 hs)
  obtain ⟨N, hN⟩ : ∃ N, b.length = N + 16 := ⟨b.length - 16, by omega⟩
  have hN20 : 20 ≤ N := by omega
  obtain ⟨g, off, c, rfl, hc, hcm, -, -⟩ := BAt.get hb (by omega)
  rw [hN, show N + 16 - 16 = N by omega] at hO
  have hcN : ¬ c = N := by omega
  have hc16 : ¬ c = 16 := by omega
  have hc8 : ¬ c = 8 := by omega
  have hd1 : BRd w (.slice (cutA (some ⟨g, off, none⟩) c N) (b.length - N) (c - N)) (b.drop N) := BAt.cutG hb N (by omega)
  rw [show cutA (some ⟨g, off, none⟩) c N = some ⟨g, off + N, none⟩ by unfold cutA; rw [if_neg hcN, Option.map_some, addr_add], hN, show N + 16 - N = 16 by omega] at hd1
  have hd2 : BRd w (.slice (some ⟨g, off, none⟩) N c) (b.take N) := BAt.take8 hb N (by omega)
  have hd3 : BRd w (.slice (cutA (some ⟨g, off, none⟩) c 16) (b.length - 16) (c - 16)) (b.drop 16) := BAt.cutG hb 16 (by omega)
  rw [show cutA (some ⟨g, off, none⟩) c 16 = some ⟨g, off + 16, none⟩ by unfold cutA; rw [if_neg hc16, Option.map_some, addr_add]] at hd3
  have hd4 : BRd w (.slice (some ⟨g, off + 16, none⟩) (N - 16) (c - 16)) ((b.drop 16).take (N - 16)) := BAt.take8 hd3 (N - 16) (by rw [List.length_drop]; omega)
  have hd5 : BRd w (.slice (cutA (some ⟨g, off, none⟩) c 8) (b.length - 8) (c - 8)) (b.drop 8) := BAt.cutG hb 8 (by omega)
  rw [show cutA (some ⟨g, off, none⟩) c 8 = some ⟨g, off + 8, none⟩ by unfold cutA; rw [if_neg hc8, Option.map_some, addr_add]] at hd5
  have hd6 : BRd w (.slice (some ⟨g, off + 8, none⟩) 8 (c - 8)) ((b.drop 8).take 8) := BAt.take8 hd5 8 (by rw [List.length_drop]; omega)
  have hl1 : (b.take N).length ≤ 9000000 := by rw [List.length_take]; omega
  have hl2 : ((b.drop 8).take 8).length = 8 := by rw [List.length_take, List.length_drop]; omega
  have hl3 : ((b.drop 16).take (N - 16)).length ≤ 65536 := by rw [List.length_take]; omega
  have hmid : (b.take N).drop 16 = (b.drop 16).take (N - 16) := by rw [List.drop_take]
  rw [hmid] at hO
  unfold OpenE
  generalize openS sa seq b = O at *
  generalize (b.drop 8).take 8 = I at *
  generalize (b.drop 16).take (N - 16) = X at *
  generalize b.take N = F at *
  generalize b.drop N = D at *
  obtain ⟨spi, key, salt, mac, esn, window⟩ := sa
  unfold saC at hka hra HSH HTG ⊢
  simp only at hka hra HSH HTG hkl hsl hO ⊢
  rw [hN] at HSH hc ⊢
  have HO := Lib.hid hO
  have HKA := Lib.hid hka
  have HRA := Lib.hid hra
  have HT := Lib.hid hT
  have HD := Lib.hid (And.intro hd1 (And.intro hd2 (And.intro hd4 hd6)))
  have hNb : N ≤ 65000 := by omega
  clear hka hra hb hs hT hd1 hd2 hd3 hd4 hd5 hd6 hN hO hok hmy hml hmid h36 hbl
  go_enter Tryd.func17, Tryd.ntmps17
  go_wp2_with fail
  refine HSH.out.mono ?_
  rintro e w1 ⟨rfl, hk1⟩
  have HK := Lib.hid (HKA.out.trans hk1 (fun _ _ h => h))
  have hr1 := HRA.out.keeps hk1 (fun h => h)
  clear HSH hk1
  go_wp2
  refine wp_loop_rounds 4 ?_
  rw [rounds_succ]
  go_wp2_with (go_at_call 38; refine (is_nil _ _).mono ?_; rintro e w' ⟨rfl, rfl⟩)
  rw [rounds_succ]
  go_wp2_with (go_at_call 38; refine (is_nil _ _).mono ?_; rintro e w' ⟨rfl, rfl⟩)
  rw [rounds_succ]
  go_wp2_with (go_at_call 38; refine (is_nil _ _).mono ?_; rintro e w' ⟨rfl, rfl⟩)
  rw [rounds_succ]
  go_wp2
  have hNle : (N : Int) ≤ (N : Int) + 16 := by omega
  have hNc : (N : Int) ≤ (c : Int) := by omega
  have h16N : (16 : Int) ≤ (N : Int) := by omega
  have hsz1 : w.heap.size ≤ w1.heap.size := HK.out.size
  refine region_T [8] (fun x => x.cell? ⟨w.heap.size, 0, none⟩ = some (.int .i64 spi) ∧ x.cell? ⟨w.heap.size, 1, none⟩ = some (.string ⟨key.toArray⟩) ∧ x.cell? ⟨w.heap.size, 2, none⟩ = some (.string ⟨salt.toArray⟩) ∧ x.cell? ⟨w.heap.size, 3, none⟩ = some (.string ⟨mac.toArray⟩) ∧ x.cell? ⟨w.heap.size, 4, none⟩ = some (.bool esn) ∧ x.cell? ⟨w.heap.size, 5, none⟩ = some (.int .i64 window)) (by kernel_rfl) ?_
  have hC : (fun x : World => x.cell? ⟨w.heap.size, 0, none⟩ = some (.int .i64 spi) ∧ x.cell? ⟨w.heap.size, 1, none⟩ = some (.string ⟨key.toArray⟩) ∧ x.cell? ⟨w.heap.size, 2, none⟩ = some (.string ⟨salt.toArray⟩) ∧ x.cell? ⟨w.heap.size, 3, none⟩ = some (.string ⟨mac.toArray⟩) ∧ x.cell? ⟨w.heap.size, 4, none⟩ = some (.bool esn) ∧ x.cell? ⟨w.heap.size, 5, none⟩ = some (.int .i64 window)) w1.drew := ⟨hr1.cell 0, hr1.cell 1, hr1.cell 2, hr1.cell 3, hr1.cell 4, hr1.cell 5⟩
  refine anyT_take0 (i := 0) (v := ?_) rfl (by kernel_rfl) (by kernel_rfl) (by kernel_rfl) (by kernel_rfl) (by kernel_rfl) (fun _ _ _ h => h) hC (.inl ⟨by rfl, fun _ _ => ?_⟩) ?_
  rotate_left 1
  · go_simp
    try with_reducible rfl
  simp only [Act.put, List.getElem_toArray, List.getElem_cons_succ, List.getElem_cons_zero, List.setIfInBounds_toArray, List.set_cons_zero, List.set_cons_succ]
  refine anyT_take0 (i := 1) (v := ?_) rfl (by kernel_rfl) (by kernel_rfl) (by kernel_rfl) (by kernel_rfl) (by kernel_rfl) (fun _ _ _ h => h) hC (.inl ⟨by rfl, fun _ _ => ?_⟩) ?_
  rotate_left 1
  · go_simp
    try with_reducible rfl
  simp only [Act.put, List.getElem_toArray, List.getElem_cons_succ, List.getElem_cons_zero, List.setIfInBounds_toArray, List.set_cons_zero, List.set_cons_succ]
  refine anyT_take0 (i := 2) (v := ?_) rfl (by kernel_rfl) (by kernel_rfl) (by kernel_rfl) (by kernel_rfl) (by kernel_rfl) (fun _ _ _ h => h) hC (.inl ⟨by rfl, fun _ _ => ?_⟩) ?_
  rotate_left 1
  · go_simp
    try with_reducible rfl
  simp only [Act.put, List.getElem_toArray, List.getElem_cons_succ, List.getElem_cons_zero, List.setIfInBounds_toArray, List.set_cons_zero, List.set_cons_succ]
  refine anyT_takeC (i := 3) (v := ?_) rfl (by kernel_rfl) (by kernel_rfl) (by kernel_rfl) (by kernel_rfl) (by kernel_rfl) (by kernel_rfl) (fun _ _ _ h => h) hC (.inl ⟨by rfl, fun w hCw => ?_⟩) ?_
  rotate_left 1
  · dsimp only at hCw
    go_simp
    try with_reducible rfl
  simp only [Act.put, List.getElem_toArray, List.getElem_cons_succ, List.getElem_cons_zero, List.setIfInBounds_toArray, List.set_cons_zero, List.set_cons_succ]
  refine anyT_take0 (i := 4) (v := ?_) rfl (by kernel_rfl) (by kernel_rfl) (by kernel_rfl) (by kernel_rfl) (by kernel_rfl) (fun _ _ _ h => h) hC (.inl ⟨by rfl, fun _ _ => ?_⟩) ?_
  rotate_left 1
  · go_simp
    try with_reducible rfl
  simp only [Act.put, List.getElem_toArray, List.getElem_cons_succ, List.getElem_cons_zero, List.setIfInBounds_toArray, List.set_cons_zero, List.set_cons_succ]
  refine anyT_take0 (i := 5) (v := ?_) rfl (by kernel_rfl) (by kernel_rfl) (by kernel_rfl) (by kernel_rfl) (by kernel_rfl) (fun _ _ _ h => h) hC (.inl ⟨by rfl, fun _ _ => ?_⟩) ?_
  rotate_left 1
  · go_simp
    try with_reducible rfl
  simp only [Act.put, List.getElem_toArray, List.getElem_cons_succ, List.getElem_cons_zero, List.setIfInBounds_toArray, List.set_cons_zero, List.set_cons_succ]
  refine anyT_take0 (i := 6) (v := ?_) rfl (by kernel_rfl) (by kernel_rfl) (by kernel_rfl) (by kernel_rfl) (by kernel_rfl) (fun _ _ _ h => h) hC (.inl ⟨by rfl, fun _ _ => ?_⟩) ?_
  rotate_left 1
  · go_simp
    try with_reducible rfl
  simp only [Act.put, List.getElem_toArray, List.getElem_cons_succ, List.getElem_cons_zero, List.setIfInBounds_toArray, List.set_cons_zero, List.set_cons_succ]
  refine anyT_take0 (i := 7) (v := ?_) rfl (by kernel_rfl) (by kernel_rfl) (by kernel_rfl) (by kernel_rfl) (by kernel_rfl) (fun _ _ _ h => h) hC (.inl ⟨by rfl, fun _ _ => ?_⟩) ?_
  rotate_left 1
  · go_simp
    try with_reducible rfl
  simp only [Act.put, List.getElem_toArray, List.getElem_cons_succ, List.getElem_cons_zero, List.setIfInBounds_toArray, List.set_cons_zero, List.set_cons_succ]
  refine anyT_tail (k := 8) (by rfl) (by kernel_rfl) (by simp) rfl rfl (by kernel_rfl) ?_
  go_wp2_with fail
  have hkd : Keeps (fun _ => False) w w1.drew := HK.out.drew
  refine (HTG.out _ F _ (BRd.keeps HD.out.2.1 hkd) hl1 (HT.out.keeps hkd)).mono ?_
  rintro e w2 ⟨v2, rfl, ho2, hk2⟩
  have hk02 := hkd.trans hk2 (fun _ _ h => h)
  have hr2 := (hr1.keeps (Keeps.refl (fun _ => False) w1).drew (fun h => h)).keeps hk2 (fun h => h)
  generalize tagS ⟨spi, key, salt, mac, esn, window⟩ seq F = TG at *
  have HSM := Lib.hid (same_any _ _ D TG w2 _ _ (BRd.keeps HD.out.1 hk02) ho2.bat)
  obtain ⟨a2, c2, rfl, -, -⟩ := ho2.slice
  have HK2 := Lib.hid hk02
  clear ho2 hk2 hk02 hkd hC hr1 HTG hl1 HRA HKA HK
  go_wp2_with fail
  refine HSM.out.mono ?_
  rintro e w3 ⟨rfl, rfl⟩
  by_cases htg : D = TG
  · rw [decide_eq_true htg]
    have hO := HO.out
    rw [if_neg (fun h => h htg)] at hO
    have HO2 := Lib.hid hO
    clear hO htg HO HSM
    have k1 : w2.cell? ⟨w.heap.size, 1, none⟩ = some (.string ⟨key.toArray⟩) := hr2.cell 1
    have k2 : w2.cell? ⟨w.heap.size, 2, none⟩ = some (.string ⟨salt.toArray⟩) := hr2.cell 2
    have HTN := Lib.hid (fun (w : World) (kv sv iv bv : Value) (h1 : BRd w kv key) (h2 : BRd w sv salt) (h3 : BRd w iv I) (h4 : BRd w bv X) => cturn_any kv sv iv bv key salt I X w h1 h2 h3 h4 hkl hsl hl2 hl3)
    have hPl : (turnOf key salt I X).length ≤ 65536 := by rw [turnOf_len]; exact hl3
    have HKS := Lib.hid (show key.length ≤ 1000000 ∧ salt.length ≤ 1000000 by omega)
    generalize turnOf key salt I X = P at *
    have hc16' : (16 : Int) ≤ (c : Int) := by omega
    clear hr2 ix0 ix1 ix2 hkl hsl
    go_wp2
    refine region_T [] (fun _ => True) (by kernel_rfl) ?_
    have hC : (fun _ : World => True) w2.drew := trivial
    have hkD : Keeps (fun _ => False) w2 w2.drew := (Keeps.refl _ _).drew
    have hkE := HK2.out.trans hkD (fun _ _ h => h)
    refine anyT_take0 (i := 0) (v := ?_) rfl (by kernel_rfl) (by kernel_rfl) (by kernel_rfl) (by kernel_rfl) (by kernel_rfl) (fun _ _ _ h => h) hC (.inl ⟨by rfl, fun _ _ => ?_⟩) ?_
    rotate_left 1
    · go_simp
      try with_reducible rfl
    simp only [Act.put, List.getElem_toArray, List.getElem_cons_succ, List.getElem_cons_zero, List.setIfInBounds_toArray, List.set_cons_zero, List.set_cons_succ]
    refine anyT_take0 (i := 3) (v := ?_) rfl (by kernel_rfl) (by kernel_rfl) (by kernel_rfl) (by kernel_rfl) (by kernel_rfl) (fun _ _ _ h => h) hC (.inl ⟨by rfl, fun _ _ => ?_⟩) ?_
    rotate_left 1
    · go_simp
      try with_reducible rfl
    simp only [Act.put, List.getElem_toArray, List.getElem_cons_succ, List.getElem_cons_zero, List.setIfInBounds_toArray, List.set_cons_zero, List.set_cons_succ]
    refine anyT_take0 (i := 6) (v := ?_) rfl (by kernel_rfl) (by kernel_rfl) (by kernel_rfl) (by kernel_rfl) (by kernel_rfl) (fun _ _ _ h => h) hC (.inl ⟨by rfl, fun _ _ => ?_⟩) ?_
    rotate_left 1
    · go_simp
      try with_reducible rfl
    simp only [Act.put, List.getElem_toArray, List.getElem_cons_succ, List.getElem_cons_zero, List.setIfInBounds_toArray, List.set_cons_zero, List.set_cons_succ]
    refine anyT_take0 (i := 7) (v := ?_) rfl (by kernel_rfl) (by kernel_rfl) (by kernel_rfl) (by kernel_rfl) (by kernel_rfl) (fun _ _ _ h => h) hC (.inl ⟨by rfl, fun _ _ => ?_⟩) ?_
    rotate_left 1
    · go_simp
      try with_reducible rfl
    simp only [Act.put, List.getElem_toArray, List.getElem_cons_succ, List.getElem_cons_zero, List.setIfInBounds_toArray, List.set_cons_zero, List.set_cons_succ]
    refine anyT_take0 (i := 8) (v := ?_) rfl (by kernel_rfl) (by kernel_rfl) (by kernel_rfl) (by kernel_rfl) (by kernel_rfl) (fun _ _ _ h => h) hC (.inl ⟨by rfl, fun _ _ => ?_⟩) ?_
    rotate_left 1
    · go_simp
      try with_reducible rfl
    simp only [Act.put, List.getElem_toArray, List.getElem_cons_succ, List.getElem_cons_zero, List.setIfInBounds_toArray, List.set_cons_zero, List.set_cons_succ]
    refine anyT_take0 (i := 9) (v := ?_) rfl (by kernel_rfl) (by kernel_rfl) (by kernel_rfl) (by kernel_rfl) (by kernel_rfl) (fun _ _ _ h => h) hC (.inl ⟨by rfl, fun _ _ => ?_⟩) ?_
    rotate_left 1
    · go_simp
      try with_reducible rfl
    simp only [Act.put, List.getElem_toArray, List.getElem_cons_succ, List.getElem_cons_zero, List.setIfInBounds_toArray, List.set_cons_zero, List.set_cons_succ]
    refine anyT_take0 (i := 10) (v := ?_) rfl (by kernel_rfl) (by kernel_rfl) (by kernel_rfl) (by kernel_rfl) (by kernel_rfl) (fun _ _ _ h => h) hC (.inl ⟨by rfl, fun _ _ => ?_⟩) ?_
    rotate_left 1
    · go_simp
      try with_reducible rfl
    simp only [Act.put, List.getElem_toArray, List.getElem_cons_succ, List.getElem_cons_zero, List.setIfInBounds_toArray, List.set_cons_zero, List.set_cons_succ]
    refine anyT_par [(1, rEq (.string ⟨key.toArray⟩)), (2, rBytes key), (4, rEq (.string ⟨salt.toArray⟩)), (5, rBytes salt), (11, rPair P), (12, rPair P), (13, rBytes P), (14, rEq (.int .i64 0)), (15, rBytes P), (16, rEq (.int .i64 0))] _ [1, 2, 4, 5, 11, 12, 13, 14, 15, 16] (fun _ => trivial) (by kernel_rfl) rfl (by kernel_rfl) rfl ?_
    refine ⟨_, rfl, fun w2 hk2 hK => ?_, fun u1 => ?_⟩
    rotate_left 1
    simp only [dstOf, Act.put, List.getElem?_toArray, List.getElem?_cons_succ, List.getElem?_cons_zero, Option.bind_some, List.setIfInBounds_toArray, List.set_cons_zero, List.set_cons_succ, List.nil_append, List.cons_append]
    rotate_left 1
    · have e1 := (hkD.trans hk2 (fun _ _ h => h)).cell k1 (fun h => h)
      go_wp2
      exact ⟨_, rfl, rfl, Keeps.refl _ _⟩
    refine ⟨_, rfl, fun w2 hk2 hK => ?_, fun u2 => ?_⟩
    rotate_left 1
    simp only [dstOf, Act.put, List.getElem?_toArray, List.getElem?_cons_succ, List.getElem?_cons_zero, Option.bind_some, List.setIfInBounds_toArray, List.set_cons_zero, List.set_cons_succ, List.nil_append, List.cons_append]
    rotate_left 1
    · obtain rfl : u1 = .string ⟨key.toArray⟩ := hK (1, u1) (by simp) (by kernel_rfl)
      obtain ⟨kc, w4, hcv, hb4, hk4⟩ := conv_low _ key HKS.out.1
      go_wp2_with fail
      rw [hcv]
      go_wp2
      exact ⟨_, rfl, hb4, hk4⟩
    refine ⟨_, rfl, fun w2 hk2 hK => ?_, fun u4 => ?_⟩
    rotate_left 1
    simp only [dstOf, Act.put, List.getElem?_toArray, List.getElem?_cons_succ, List.getElem?_cons_zero, Option.bind_some, List.setIfInBounds_toArray, List.set_cons_zero, List.set_cons_succ, List.nil_append, List.cons_append]
    rotate_left 1
    · have e1 := (hkD.trans hk2 (fun _ _ h => h)).cell k2 (fun h => h)
      go_wp2
      exact ⟨_, rfl, rfl, Keeps.refl _ _⟩
    refine ⟨_, rfl, fun w2 hk2 hK => ?_, fun u5 => ?_⟩
    rotate_left 1
    simp only [dstOf, Act.put, List.getElem?_toArray, List.getElem?_cons_succ, List.getElem?_cons_zero, Option.bind_some, List.setIfInBounds_toArray, List.set_cons_zero, List.set_cons_succ, List.nil_append, List.cons_append]
    rotate_left 1
    · obtain rfl : u4 = .string ⟨salt.toArray⟩ := hK (4, u4) (by simp) (by kernel_rfl)
      obtain ⟨kc, w4, hcv, hb4, hk4⟩ := conv_low _ salt HKS.out.2
      go_wp2_with fail
      rw [hcv]
      go_wp2
      exact ⟨_, rfl, hb4, hk4⟩
    refine ⟨_, rfl, fun w2 hk2 hK => ?_, fun u11 => ?_⟩
    rotate_left 1
    simp only [dstOf, Act.put, List.getElem?_toArray, List.getElem?_cons_succ, List.getElem?_cons_zero, Option.bind_some, List.setIfInBounds_toArray, List.set_cons_zero, List.set_cons_succ, List.nil_append, List.cons_append]
    rotate_left 1
    · have h2 : BRd w2 u2 key := hK (2, u2) (by simp) (by kernel_rfl)
      have h5 : BRd w2 u5 salt := hK (5, u5) (by simp) (by kernel_rfl)
      have hke := hkE.trans hk2 (fun _ _ h => h)
      go_wp2_with fail
      refine (HTN.out _ _ _ _ _ h2 h5 (BRd.keeps HD.out.2.2.2 hke) (BRd.keeps HD.out.2.2.1 hke)).mono ?_
      rintro e w3 ⟨v3, rfl, ho3, hk3⟩
      go_wp2
      exact ⟨_, rfl, ⟨_, rfl, ho3.bat.low⟩, hk3⟩
    refine ⟨_, rfl, fun w2 hk2 hK => ?_, fun u12 => ?_⟩
    rotate_left 1
    simp only [dstOf, Act.put, List.getElem?_toArray, List.getElem?_cons_succ, List.getElem?_cons_zero, Option.bind_some, List.setIfInBounds_toArray, List.set_cons_zero, List.set_cons_succ, List.nil_append, List.cons_append]
    rotate_left 1
    · have h11 : (rPair P).1 u11 w2 := hK (11, u11) (by simp) (by kernel_rfl)
      go_wp2
      exact ⟨_, rfl, h11, Keeps.refl _ _⟩
    refine ⟨_, rfl, fun w2 hk2 hK => ?_, fun u13 => ?_⟩
    rotate_left 1
    simp only [dstOf, Act.put, List.getElem?_toArray, List.getElem?_cons_succ, List.getElem?_cons_zero, Option.bind_some, List.setIfInBounds_toArray, List.set_cons_zero, List.set_cons_succ, List.nil_append, List.cons_append]
    rotate_left 1
    · have h12 : (rPair P).1 u12 w2 := hK (12, u12) (by simp) (by kernel_rfl)
      obtain ⟨v12, rfl, hb12⟩ := h12
      go_wp2
      exact ⟨_, rfl, hb12, Keeps.refl _ _⟩
    refine ⟨_, rfl, fun w2 hk2 hK => ?_, fun u14 => ?_⟩
    rotate_left 1
    simp only [dstOf, Act.put, List.getElem?_toArray, List.getElem?_cons_succ, List.getElem?_cons_zero, Option.bind_some, List.setIfInBounds_toArray, List.set_cons_zero, List.set_cons_succ, List.nil_append, List.cons_append]
    rotate_left 1
    · have h12 : (rPair P).1 u12 w2 := hK (12, u12) (by simp) (by kernel_rfl)
      obtain ⟨v12, rfl, hb12⟩ := h12
      go_wp2
      exact ⟨_, rfl, rfl, Keeps.refl _ _⟩
    refine ⟨_, rfl, fun w2 hk2 hK => ?_, fun u15 => ?_⟩
    rotate_left 1
    simp only [dstOf, Act.put, List.getElem?_toArray, List.getElem?_cons_succ, List.getElem?_cons_zero, Option.bind_some, List.setIfInBounds_toArray, List.set_cons_zero, List.set_cons_succ, List.nil_append, List.cons_append]
    rotate_left 1
    · have h13 : BRd w2 u13 P := hK (13, u13) (by simp) (by kernel_rfl)
      go_wp2
      exact ⟨_, rfl, h13, Keeps.refl _ _⟩
    refine ⟨_, rfl, fun w2 hk2 hK => ?_, fun u16 => ?_⟩
    rotate_left 1
    simp only [dstOf, Act.put, List.getElem?_toArray, List.getElem?_cons_succ, List.getElem?_cons_zero, Option.bind_some, List.setIfInBounds_toArray, List.set_cons_zero, List.set_cons_succ, List.nil_append, List.cons_append]
    rotate_left 1
    · obtain rfl : u14 = .int .i64 0 := hK (14, u14) (by simp) (by kernel_rfl)
      go_wp2
      exact ⟨_, rfl, rfl, Keeps.refl _ _⟩
    intro w3 hk3 hK
    obtain rfl : u16 = .int .i64 0 := hK (16, u16) (by simp)
    have h15 : BRd w3 u15 P := hK (15, u15) (by simp)
    have hk03 := hkE.trans hk3 (fun _ _ h => h)
    have HPO := Lib.hid (popen_any u15 P w3 h15 (by omega))
    have HK3 := Lib.hid hk03
    clear hk03 hK h15 hkE hkD hC HTN
    go_wp2_with fail
    refine HPO.out.mono ?_
    intro e w4 hp
    unfold POpen at hp
    have hO := HO2.out
    clear HO2 HPO
    cases hpp : padOpen P with
    | some dx =>
      obtain ⟨d, x⟩ := dx
      rw [hpp] at hp hO
      simp only at hp hO
      subst hO
      obtain ⟨v4, rfl, ho4, hk4⟩ := hp
      have HO4 := Lib.hid (ho4.mono HK3.out.size)
      have HK4 := Lib.hid (HK3.out.trans hk4 (fun _ _ h => h))
      clear ho4 hk4 hpp
      go_wp2
      refine bodyPost_ret (results_tmp3 rfl _ _ _) rfl ?_
      exact ⟨_, rfl, HO4.out, HK4.out⟩
    | none =>
      rw [hpp] at hp hO
      simp only at hp hO
      subst hO
      obtain ⟨er, her, rfl, hk4⟩ := hp
      have HK4 := Lib.hid (HK3.out.trans hk4 (fun _ _ h => h))
      clear hk4 hpp
      go_wp2
      refine bodyPost_ret (results_tmp3 rfl _ _ _) rfl ?_
      exact ⟨_, rfl, BOwn.nil _ _, HK4.out⟩
  · rw [decide_eq_false htg]
    have hO := HO.out
    rw [if_pos htg] at hO
    subst hO
    clear HO HSM htg
    go_wp2
    refine bodyPost_ret (results_tmp3 rfl _ _ _) rfl ?_
    exact ⟨_, rfl, BOwn.nil _ _, HK2.out⟩
end Go.Proofs.YtekaoknpjpbjgaaDoor
