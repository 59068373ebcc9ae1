/- Words, walks and plain laws that the claim leans on, part 14. -/
import Derived.Test.YtiodmhcmciohnaaK6
import Derived.Test.YtiodmhcmciohnaaK11

/-! The reference's sender. -/
namespace Go.Proofs.Ytiodmhcmciohnaa
set_option linter.unusedVariables false
set_option linter.unusedSimpArgs false
open Go.RowKit

set_option maxRecDepth 100000 in
set_option maxHeartbeats 1000000 in
theorem rwrite_any (g n : Nat) (room first : Int) (av dv : Value) (all data : List UInt8) (w : World) (hr : RowAt w g #[.int .i64 room, av, .int .i64 first] 55) (hA : BRd w av all) (hd : BRd w dv data)
    (h1 : 0 ≤ first) (h2 : room ≤ 65535) (hfl : first ≤ (all.length : Int)) (h0 : (all.length : Int) - first ≤ room) (hal : all.length ≤ 1000000) (hl : data.length ≤ 1000000) (hn : (n : Int) = if room - ((all.length : Int) - first) < (data.length : Int) then room - ((all.length : Int) - first) else (data.length : Int)) :
    Calls Try.prog 24 #[.pointer (some ⟨g, 0, none⟩), dv] w fun e w' => e = .returned (.tuple #[.int .i64 n, .int .i64 0]) ∧ Keeps (· = g) w w' ∧
      ∃ av', RowAt w' g #[.int .i64 room, av', .int .i64 first] 55 ∧ BOwn w' w.heap.size av' (all ++ data.take n) := by
  obtain ⟨da, dc, rfl, hdc, hdm⟩ := BAt.slice hd
  obtain ⟨aa, ac, rfl, -, -⟩ := BAt.slice hA
  simp only [maxLen] at hdm
  have hnl : n ≤ data.length := by split at hn <;> omega
  have hmn : (if room - ((all.length : Int) - first) < (data.length : Int) then room - ((all.length : Int) - first) else (data.length : Int)) = (n : Int) := hn.symm
  have p0 : w.cell? ⟨g, 0, none⟩ = some (.int .i64 room) := hr.cell 0
  have p1 : w.cell? ⟨g, 1, none⟩ = some (.slice aa all.length ac) := hr.cell 1
  have p2 : w.cell? ⟨g, 2, none⟩ = some (.int .i64 first) := hr.cell 2
  have q0 := i64_fit ((all.length : Int) - first) (by omega) (by omega)
  have q1 := i64_fit (room - ((all.length : Int) - first)) (by omega) (by omega)
  have hnc : (n : Int) ≤ (dc : Int) := by omega
  have htl : (data.take n).length = n := by rw [List.length_take]; omega
  have htk : BRd w (.slice da n dc) (data.take n) := BAt.take hd n hnl
  obtain ⟨M, hM⟩ : ∃ M, all ++ data.take n = M := ⟨_, rfl⟩
  obtain ⟨T, hT⟩ : ∃ T, data.take n = T := ⟨_, rfl⟩
  have hfl2 : [all, T].flatten = M := by rw [← hM, ← hT]; simp
  have hMl : M.length ≤ 140737488355328 := by rw [← hM, List.length_append, htl]; omega
  rw [hM]
  rw [hT] at htk
  have HN := Lib.hid hn
  have HF := Lib.hid hfl2
  clear hn hM hT htl hfl2
  go_enter Try.func24, Try.ntmps24
  go_wp2
  go_quiet (fail)
  go_wp2
  have hkq : Keeps (fun _ => False) w (w.drewN nq) := (Keeps.refl _ _).drewN nq
  have hrq := hr.keeps hkq (fun h => h)
  have hAq := BRd.keeps hA hkq
  have htq := BRd.keeps htk hkq
  have hsz : (w.drewN nq).heap.size = w.heap.size := rfl
  generalize w.drewN nq = W at *
  have hC : (fun x : World => x.cell? ⟨g, 1, none⟩ = some (.slice aa all.length ac)) W.drew := hrq.cell 1
  refine region_T [12] (fun x => x.cell? ⟨g, 1, none⟩ = some (.slice aa all.length ac)) (by kernel_rfl) ?_
  refine anyT_take0 (i := 0) (v := ?_) rfl (by kernel_rfl) (by kernel_rfl) (by kernel_rfl) (by kernel_rfl) (by kernel_rfl) (fun _ _ _ h => h) hC (.inl ⟨by rfl, fun _ _ => ?_⟩) ?_
  rotate_left 1
  · go_simp
    try with_reducible rfl
  simp only [Act.put, List.getElem_toArray, List.getElem_cons_succ, List.getElem_cons_zero, List.setIfInBounds_toArray, List.set_cons_zero, List.set_cons_succ]
  refine anyT_take0 (i := 1) (v := ?_) rfl (by kernel_rfl) (by kernel_rfl) (by kernel_rfl) (by kernel_rfl) (by kernel_rfl) (fun _ _ _ h => h) hC (.inl ⟨by rfl, fun _ _ => ?_⟩) ?_
  rotate_left 1
  · go_simp
    try with_reducible rfl
  simp only [Act.put, List.getElem_toArray, List.getElem_cons_succ, List.getElem_cons_zero, List.setIfInBounds_toArray, List.set_cons_zero, List.set_cons_succ]
  refine anyT_take0 (i := 2) (v := ?_) rfl (by kernel_rfl) (by kernel_rfl) (by kernel_rfl) (by kernel_rfl) (by kernel_rfl) (fun _ _ _ h => h) hC (.inl ⟨by rfl, fun _ _ => ?_⟩) ?_
  rotate_left 1
  · go_simp
    try with_reducible rfl
  simp only [Act.put, List.getElem_toArray, List.getElem_cons_succ, List.getElem_cons_zero, List.setIfInBounds_toArray, List.set_cons_zero, List.set_cons_succ]
  refine anyT_take0 (i := 3) (v := ?_) rfl (by kernel_rfl) (by kernel_rfl) (by kernel_rfl) (by kernel_rfl) (by kernel_rfl) (fun _ _ _ h => h) hC (.inl ⟨by rfl, fun _ _ => ?_⟩) ?_
  rotate_left 1
  · go_simp
    try with_reducible rfl
  simp only [Act.put, List.getElem_toArray, List.getElem_cons_succ, List.getElem_cons_zero, List.setIfInBounds_toArray, List.set_cons_zero, List.set_cons_succ]
  refine anyT_takeC (i := 4) (v := ?_) rfl (by kernel_rfl) (by kernel_rfl) (by kernel_rfl) (by kernel_rfl) (by kernel_rfl) (by kernel_rfl) (fun _ _ _ h => h) hC (.inl ⟨by rfl, fun w hCw => ?_⟩) ?_
  rotate_left 1
  · dsimp only at hCw
    go_simp
    try with_reducible rfl
  simp only [Act.put, List.getElem_toArray, List.getElem_cons_succ, List.getElem_cons_zero, List.setIfInBounds_toArray, List.set_cons_zero, List.set_cons_succ]
  refine anyT_take0 (i := 5) (v := ?_) rfl (by kernel_rfl) (by kernel_rfl) (by kernel_rfl) (by kernel_rfl) (by kernel_rfl) (fun _ _ _ h => h) hC (.inl ⟨by rfl, fun _ _ => ?_⟩) ?_
  rotate_left 1
  · go_simp
    try with_reducible rfl
  simp only [Act.put, List.getElem_toArray, List.getElem_cons_succ, List.getElem_cons_zero, List.setIfInBounds_toArray, List.set_cons_zero, List.set_cons_succ]
  refine anyT_take0 (i := 6) (v := ?_) rfl (by kernel_rfl) (by kernel_rfl) (by kernel_rfl) (by kernel_rfl) (by kernel_rfl) (fun _ _ _ h => h) hC (.inl ⟨by rfl, fun _ _ => ?_⟩) ?_
  rotate_left 1
  · go_simp
    try with_reducible rfl
  simp only [Act.put, List.getElem_toArray, List.getElem_cons_succ, List.getElem_cons_zero, List.setIfInBounds_toArray, List.set_cons_zero, List.set_cons_succ]
  refine anyT_take0 (i := 7) (v := ?_) rfl (by kernel_rfl) (by kernel_rfl) (by kernel_rfl) (by kernel_rfl) (by kernel_rfl) (fun _ _ _ h => h) hC (.inl ⟨by rfl, fun _ _ => ?_⟩) ?_
  rotate_left 1
  · go_simp
    try with_reducible rfl
  simp only [Act.put, List.getElem_toArray, List.getElem_cons_succ, List.getElem_cons_zero, List.setIfInBounds_toArray, List.set_cons_zero, List.set_cons_succ]
  have hr8 := hrq.alloc (.cells #[.slice aa all.length ac, .slice da n dc] 30)
  have hk8 := hkq.alloc (.cells #[.slice aa all.length ac, .slice da n dc] 30)
  have hb8 := (BBAt.pair (T := 30) hAq htq).low
  rw [hsz] at hb8
  have HB := Lib.hid (both_any _ _ _ (BBRd.keeps hb8 ((Keeps.refl (fun _ => False) (W.alloc (.cells #[.slice aa all.length ac, .slice da n dc] 30))).drew)) (by rw [HF.out]; exact hMl))
  rw [HF.out] at HB
  clear hb8
  refine anyT_force (i := 8) rfl (by kernel_rfl) (by rfl) ?_
  go_simp
  refine ⟨fun _ => hr8.cell 1, ?_⟩
  refine anyT_force (i := 9) rfl (by kernel_rfl) (by rfl) ?_
  go_simp
  refine HB.out.mono ?_
  rintro e w9 ⟨v9, rfl, ho9, hk9⟩
  have hk9' : Keeps (fun _ => False) w w9 := hk8.drew.trans hk9 (fun _ _ h => h)
  have hr9 := hr8.drew.keeps hk9 (fun h => h)
  have f9 := hr9.frozen 1
  refine ⟨fun _ => hr9.cell 1, ?_⟩
  obtain ⟨a9, c9, rfl, -, -⟩ := BOwn.slice ho9
  have hC := hr9.cell 1
  refine anyT_take0 (i := 10) (v := ?_) rfl (by kernel_rfl) (by kernel_rfl) (by kernel_rfl) (by kernel_rfl) (by kernel_rfl) (fun _ _ _ h => h) hC (.inl ⟨by rfl, fun _ _ => ?_⟩) ?_
  rotate_left 1
  · go_simp
    try with_reducible rfl
  simp only [Act.put, List.getElem_toArray, List.getElem_cons_succ, List.getElem_cons_zero, List.setIfInBounds_toArray, List.set_cons_zero, List.set_cons_succ]
  refine anyT_take0 (i := 11) (v := ?_) rfl (by kernel_rfl) (by kernel_rfl) (by kernel_rfl) (by kernel_rfl) (by kernel_rfl) (fun _ _ _ h => h) hC (.inl ⟨by rfl, fun _ _ => ?_⟩) ?_
  rotate_left 1
  · go_simp
    try with_reducible rfl
  simp only [Act.put, List.getElem_toArray, List.getElem_cons_succ, List.getElem_cons_zero, List.setIfInBounds_toArray, List.set_cons_zero, List.set_cons_succ]
  refine anyT_tail (k := 12) (by rfl) (by kernel_rfl) (by simp) rfl rfl (by kernel_rfl) ?_
  have hr10 : RowAt (w9.setCell ⟨g, 1, none⟩ (.slice a9 M.length c9)) g #[.int .i64 room, .slice a9 M.length c9, .int .i64 first] 55 := (hr9.set 1 _).eq rfl
  have hg9 : (Value.slice a9 M.length c9).ownBlock ≠ some g := ho9.apart hr9 (by decide)
  have ho10 := ho9.keeps ((Keeps.refl (· = g) w9).setCell ⟨g, 1, none⟩ (.slice a9 M.length c9) (.inl rfl)) (fun b hb e => by subst e; exact hg9 hb)
  have hsz8 : w.heap.size ≤ (W.alloc (.cells #[.slice aa all.length ac, .slice da n dc] 30)).drew.heap.size := hk8.drew.size
  have hkF : Keeps (· = g) w (w9.setCell ⟨g, 1, none⟩ (.slice a9 M.length c9)) := (hk9'.mono (fun _ _ h => h.elim)).setCell _ _ (.inl rfl)
  go_wp2
  go_ret2
  exact ⟨rfl, hkF, _, hr10, ho10.mono hsz8⟩

set_option maxRecDepth 100000 in
set_option maxHeartbeats 1000000 in
theorem rdrop_any (g i : Nat) (room : Int) (first : Nat) (av : Value) (all : List UInt8) (w : World) (hr : RowAt w g #[.int .i64 room, av, .int .i64 first] 55) (hA : BRd w av all)
    (hfl : first + i ≤ all.length) (hal : all.length ≤ 1000000) :
    Calls Try.prog 28 #[.pointer (some ⟨g, 0, none⟩), .int .i64 ((first : Int) + (i : Int))] w fun e w' => e = .returned (.tuple #[.int .i64 i, .int .i64 0]) ∧ Keeps (· = g) w w' ∧
      RowAt w' g #[.int .i64 room, av, .int .i64 ((first : Int) + (i : Int))] 55 := by
  obtain ⟨aa, ac, rfl, -, -⟩ := BAt.slice hA
  have p1 : w.cell? ⟨g, 1, none⟩ = some (.slice aa all.length ac) := hr.cell 1
  have p2 : w.cell? ⟨g, 2, none⟩ = some (.int .i64 first) := hr.cell 2
  have f2 := hr.frozen 2
  obtain ⟨at', hat⟩ : ∃ x, (first : Int) + (i : Int) = x := ⟨_, rfl⟩
  rw [hat]
  have g1 : ¬ at' < (first : Int) := by omega
  have g2 : ¬ (all.length : Int) < at' := by omega
  have q1 : IntKind.i64.wrap (at' - (first : Int)) = (i : Int) := by rw [i64_fit _ (by omega) (by omega)]; omega
  clear hat
  go_enter Try.func28, Try.ntmps28
  go_wp2
  go_ret2
  exact ⟨rfl, (Keeps.refl (· = g) w).setCell _ _ (.inl rfl), (hr.set 2 _).eq rfl⟩

set_option maxRecDepth 100000 in
set_option maxHeartbeats 1000000 in
theorem rdrop_bad (g : Nat) (room first at' : Int) (av : Value) (all : List UInt8) (w : World) (hr : RowAt w g #[.int .i64 room, av, .int .i64 first] 55) (hA : BRd w av all)
    (hbad : at' < first ∨ (all.length : Int) < at') :
    Calls Try.prog 28 #[.pointer (some ⟨g, 0, none⟩), .int .i64 at'] w fun e w' => e = .returned (.tuple #[.int .i64 0, .int .i64 1]) ∧ w = w' := by
  obtain ⟨aa, ac, rfl, -, -⟩ := BAt.slice hA
  have p1 : w.cell? ⟨g, 1, none⟩ = some (.slice aa all.length ac) := hr.cell 1
  have p2 : w.cell? ⟨g, 2, none⟩ = some (.int .i64 first) := hr.cell 2
  by_cases g1 : at' < first
  · clear hbad
    go_enter Try.func28, Try.ntmps28
    go_wp2
    go_ret2
    exact ⟨rfl, rfl⟩
  · have g2 : (all.length : Int) < at' := by omega
    clear hbad
    go_enter Try.func28, Try.ntmps28
    go_wp2
    go_ret2
    exact ⟨rfl, rfl⟩

set_option maxRecDepth 100000 in
set_option maxHeartbeats 1000000 in
theorem rpeek_bad (g : Nat) (room first at' k : Int) (av : Value) (all : List UInt8) (w : World) (hr : RowAt w g #[.int .i64 room, av, .int .i64 first] 55) (hA : BRd w av all)
    (hbad : at' < first ∨ (all.length : Int) < at' ∨ k < 0) :
    Calls Try.prog 26 #[.pointer (some ⟨g, 0, none⟩), .int .i64 at', .int .i64 k] w fun e w' => e = .returned (.tuple #[.slice none 0 0, .int .i64 1]) ∧ w = w' := by
  obtain ⟨aa, ac, rfl, -, -⟩ := BAt.slice hA
  have p1 : w.cell? ⟨g, 1, none⟩ = some (.slice aa all.length ac) := hr.cell 1
  have p2 : w.cell? ⟨g, 2, none⟩ = some (.int .i64 first) := hr.cell 2
  by_cases g1 : at' < first
  · clear hbad
    go_enter Try.func26, Try.ntmps26
    go_wp2
    go_ret2
    exact ⟨rfl, rfl⟩
  · by_cases g2 : (all.length : Int) < at'
    · clear hbad
      go_enter Try.func26, Try.ntmps26
      go_wp2
      go_ret2
      exact ⟨rfl, rfl⟩
    · have g3 : k < 0 := by omega
      clear hbad
      go_enter Try.func26, Try.ntmps26
      go_wp2
      go_ret2
      exact ⟨rfl, rfl⟩

set_option maxRecDepth 100000 in
set_option maxHeartbeats 1000000 in
theorem rpeek_any (g i k : Nat) (room : Int) (first : Nat) (n : Int) (av : Value) (all : List UInt8) (w : World) (hr : RowAt w g #[.int .i64 room, av, .int .i64 first] 55) (hA : BRd w av all)
    (hi : first + i ≤ all.length) (hal : all.length ≤ 1000000) (hn0 : 0 ≤ n) (hn : (k : Int) = if (all.length : Int) - ((first : Int) + (i : Int)) < n then (all.length : Int) - ((first : Int) + (i : Int)) else n) :
    Calls Try.prog 26 #[.pointer (some ⟨g, 0, none⟩), .int .i64 ((first : Int) + (i : Int)), .int .i64 n] w fun e w' => ∃ v, e = .returned (.tuple #[v, .int .i64 0]) ∧ BOwn w' w.heap.size v ((all.drop (first + i)).take k) ∧ Keeps (fun _ => False) w w' := by
  obtain ⟨aa, ac, rfl, hac, ham⟩ := BAt.slice hA
  simp only [maxLen] at ham
  have p1 : w.cell? ⟨g, 1, none⟩ = some (.slice aa all.length ac) := hr.cell 1
  have p2 : w.cell? ⟨g, 2, none⟩ = some (.int .i64 first) := hr.cell 2
  have g1' : (first : Int) ≤ (first : Int) + (i : Int) := by omega
  obtain ⟨j, hj⟩ : ∃ j : Nat, first + i = j := ⟨_, rfl⟩
  rw [show ((first : Int) + (i : Int)) = (j : Int) by omega] at hn g1' ⊢
  rw [hj] at hi ⊢
  have g1 : ¬ (j : Int) < (first : Int) := by omega
  have g2 : ¬ (all.length : Int) < (j : Int) := by omega
  have g3 : ¬ n < 0 := by omega
  have hcut := BAt.cutG hA j hi
  obtain ⟨to, hto⟩ : ∃ t : Nat, j + k = t := ⟨_, rfl⟩
  have hkl : k ≤ all.length - j := by split at hn <;> omega
  have hD : (all.drop j).length = all.length - j := List.length_drop
  have ht2 := BAt.take (l := all.drop j) (a := cutA aa ac j) (c := ac - j) (p := (· < w.heap.size)) (w := w) (by rw [hD]; exact hcut) k (by rw [hD]; exact hkl)
  unfold cutA at ht2
  obtain ⟨D, hDD⟩ : ∃ D, (all.drop j).take k = D := ⟨_, rfl⟩
  have hDl : D.length ≤ 1000000 := by rw [← hDD, List.length_take, List.length_drop]; omega
  rw [hDD] at ht2 ⊢
  have hfl2 : [D].flatten = D := by simp
  clear hcut hj hDD hD
  by_cases c1 : n < (all.length : Int) - (j : Int)
  · obtain rfl : n = (k : Int) := by split at hn <;> omega
    have q1 := i64_fit ((all.length : Int) - (j : Int)) (by omega) (by omega)
    have q2 := i64_fit ((j : Int) + (k : Int)) (by omega) (by omega)
    clear hn
    have hcj : ¬ ac = j := by omega
    rw [if_neg hcj, show k = to - j by omega] at ht2
    go_enter Try.func26, Try.ntmps26
    go_wp2_with fail
    refine (both_any _ [D] _ (BBAt.one (T := 30) ht2).low (by rw [hfl2]; omega)).mono ?_
    rintro e w3 ⟨v3, rfl, ho3, hk3⟩
    rw [hfl2] at ho3
    have hsz : w.heap.size ≤ (w.alloc (.cells #[.slice aa 0 0] 30)).heap.size := ((Keeps.refl (fun _ => False) w).alloc _).size
    go_wp2
    go_ret2
    exact ⟨_, rfl, ho3.mono ((Keeps.refl (fun _ => False) w).alloc _).size, ((Keeps.refl (fun _ => False) w).alloc _).trans hk3 (fun _ _ h => h)⟩
  · obtain rfl : k = all.length - j := by split at hn <;> omega
    have q1 := i64_fit ((all.length : Int) - (j : Int)) (by omega) (by omega)
    clear hn hto hkl
    by_cases hcj : ac = j
    · subst hcj
      rw [if_pos rfl, show all.length - ac = 0 by omega, show ac - ac = 0 by omega] at ht2
      trace_state
      go_enter Try.func26, Try.ntmps26
      go_wp2_with fail
      refine (both_any _ [D] _ (BBAt.one (T := 30) ht2).low (by rw [hfl2]; omega)).mono ?_
      rintro e w3 ⟨v3, rfl, ho3, hk3⟩
      rw [hfl2] at ho3
      have hsz : w.heap.size ≤ (w.alloc (.cells #[.slice aa 0 0] 30)).heap.size := ((Keeps.refl (fun _ => False) w).alloc _).size
      go_wp2
      go_ret2
      exact ⟨_, rfl, ho3.mono ((Keeps.refl (fun _ => False) w).alloc _).size, ((Keeps.refl (fun _ => False) w).alloc _).trans hk3 (fun _ _ h => h)⟩
    · rw [if_neg hcj] at ht2
      go_enter Try.func26, Try.ntmps26
      go_wp2_with fail
      refine (both_any _ [D] _ (BBAt.one (T := 30) ht2).low (by rw [hfl2]; omega)).mono ?_
      rintro e w3 ⟨v3, rfl, ho3, hk3⟩
      rw [hfl2] at ho3
      have hsz : w.heap.size ≤ (w.alloc (.cells #[.slice aa 0 0] 30)).heap.size := ((Keeps.refl (fun _ => False) w).alloc _).size
      go_wp2
      go_ret2
      exact ⟨_, rfl, ho3.mono ((Keeps.refl (fun _ => False) w).alloc _).size, ((Keeps.refl (fun _ => False) w).alloc _).trans hk3 (fun _ _ h => h)⟩
end Go.Proofs.Ytiodmhcmciohnaa

/-! Words for a script of calls; few. -/
namespace Go.Proofs.Ytiodmhcmciohnaa
set_option linter.unusedVariables false
set_option linter.unusedSimpArgs false
open Go.RowKit

structure OpV where
  call : Int
  at' : Int
  n : Int
  data : List UInt8
structure OpFit (o : OpV) : Prop where
  c1 : -9223372036854775808 ≤ o.call
  c2 : o.call ≤ 9223372036854775807
  a1 : -9223372036854775808 ≤ o.at'
  a2 : o.at' ≤ 9223372036854775807
  n1 : -9223372036854775808 ≤ o.n
  n2 : o.n ≤ 9223372036854775807
  d : o.data.length ≤ 140737488355328
def ocells (q : OpV × Value) : List Value := [.int .i64 q.1.call, .int .i64 q.1.at', .int .i64 q.1.n, q.2]
def flatO (qs : List (OpV × Value)) : List Value := qs.flatMap ocells
theorem flatO_length : ∀ qs : List (OpV × Value), (flatO qs).length = qs.length * 4
  | [] => rfl
  | q :: qs => by
    have := flatO_length qs
    unfold flatO at *
    rw [List.flatMap_cons, List.length_append, this, List.length_cons]
    show 4 + _ = _
    omega
theorem flatO_get : ∀ (qs : List (OpV × Value)) (i : Nat) (q : OpV × Value) (k : Nat), qs[i]? = some q → k < 4 → (flatO qs)[i * 4 + k]? = (ocells q)[k]?
  | [], i, q, k, h, _ => by simp at h
  | q' :: qs, 0, q, k, h, hk => by
    obtain rfl : q' = q := by simpa using h
    unfold flatO
    rw [List.flatMap_cons, Nat.zero_mul, Nat.zero_add, List.getElem?_append_left (by show k < 4; exact hk)]
  | q' :: qs, i + 1, q, k, h, hk => by
    have := flatO_get qs i q k (by simpa using h) hk
    unfold flatO at *
    rw [List.flatMap_cons, List.getElem?_append_right (by show 4 ≤ _; omega)]
    show _[(i + 1) * 4 + k - 4]? = _
    rw [show (i + 1) * 4 + k - 4 = i * 4 + k by omega, this]
/-- v reads this script. -/
def ORd (w : World) (v : Value) (L : List OpV) : Prop :=
  ∃ qs : List (OpV × Value), qs.map (·.1) = L ∧ SAt w (· < w.heap.size) 4 v L.length (flatO qs) ∧ ∀ q ∈ qs, BRd w q.2 q.1.data ∧ OpFit q.1
theorem ORd.keeps {w w' : World} {v : Value} {L : List OpV} (h : ORd w v L) (hk : Keeps (fun _ => False) w w') : ORd w' v L := by
  obtain ⟨qs, h1, h2, h3⟩ := h
  exact ⟨qs, h1, (SAt.keeps h2 hk (fun _ _ h => h)).mono fun b hb => Nat.lt_of_lt_of_le hb hk.size, fun q hq => ⟨(h3 q hq).1.keeps hk, (h3 q hq).2⟩⟩
theorem ORd.slice {w : World} {v : Value} {L : List OpV} (h : ORd w v L) : ∃ a c, v = .slice a L.length c ∧ L.length ≤ c ∧ c ≤ maxLen := by
  obtain ⟨qs, h1, h2, h3⟩ := h
  exact SAt.slice h2
/-- A call of the script: its cells. -/
theorem ORd.at {w : World} {v : Value} {L : List OpV} (h : ORd w v L) (i : Nat) (hi : i < L.length) :
    ∃ b off c dv, v = .slice (some ⟨b, off, none⟩) L.length c ∧ b < w.heap.size ∧ BRd w dv L[i].data ∧ OpFit L[i] ∧ w.cell? ⟨b, off + i * 4, none⟩ = some (.int .i64 L[i].call) ∧ w.cell? ⟨b, off + i * 4 + 1, none⟩ = some (.int .i64 L[i].at') ∧
      w.cell? ⟨b, off + i * 4 + 2, none⟩ = some (.int .i64 L[i].n) ∧ w.cell? ⟨b, off + i * 4 + 3, none⟩ = some dv := by
  obtain ⟨qs, rfl, ⟨h1, a', c', e, h3, h4, h5⟩, h6⟩ := h
  rw [List.length_map] at hi h1
  rcases h5 with h5 | ⟨b, off, hb, rfl, hc⟩
  · rw [h5] at h1; simp at h1; omega
  · obtain ⟨q, hq⟩ : ∃ q, qs[i]? = some q := ⟨_, List.getElem?_eq_getElem hi⟩
    have hg : (qs.map (·.1))[i]'(by simpa using hi) = q.1 := by
      rw [List.getElem_map]
      rw [List.getElem?_eq_getElem hi] at hq
      rw [Option.some.inj hq]
    rw [hg]
    have hm := h6 q (List.mem_of_getElem? hq)
    refine ⟨b, off, c', q.2, e, hb, hm.1, hm.2, ?_, ?_, ?_, ?_⟩
    · have hf := flatO_get qs i q 0 hq (by omega)
      rw [Nat.add_zero] at hf
      exact hc _ _ hf
    · have hf := flatO_get qs i q 1 hq (by omega)
      rw [Nat.add_assoc]
      exact hc _ _ hf
    · have hf := flatO_get qs i q 2 hq (by omega)
      rw [Nat.add_assoc]
      exact hc _ _ hf
    · have hf := flatO_get qs i q 3 hq (by omega)
      rw [Nat.add_assoc]
      exact hc _ _ hf

def sumO (L : List OpV) : Nat := (L.map (·.data.length)).sum
def fewO (L : List OpV) : Bool := decide (L.length ≤ 60) && decide (sumO L ≤ 3000)
theorem sumO_succ (L : List OpV) (i : Nat) (hi : i < L.length) : sumO (L.take (i + 1)) = sumO (L.take i) + L[i].data.length := by
  unfold sumO
  rw [List.take_succ_eq_append_getElem hi, List.map_append, List.sum_append]
  rfl
theorem sumO_le (L : List OpV) (h : ∀ o ∈ L, o.data.length ≤ 140737488355328) : sumO L ≤ L.length * 140737488355328 := by
  induction L with
  | nil => simp [sumO]
  | cons o r ih =>
    have h1 := ih (fun x hx => h x (List.mem_cons_of_mem _ hx))
    have h2 := h o List.mem_cons_self
    unfold sumO at *
    simp only [List.map_cons, List.sum_cons, List.length_cons]
    omega
theorem ORd.fit {w : World} {v : Value} {L : List OpV} (h : ORd w v L) : ∀ o ∈ L, OpFit o := by
  obtain ⟨qs, rfl, -, h6⟩ := h
  intro o ho
  obtain ⟨q, hq, rfl⟩ := List.mem_map.1 ho
  exact (h6 q hq).2

set_option maxRecDepth 100000 in
set_option maxHeartbeats 1000000 in
theorem few_any (v : Value) (L : List OpV) (w : World) (h : ORd w v L) :
    Calls Try.prog 8 #[v] w fun e w' => e = .returned (.bool (fewO L)) ∧ w = w' := by
  obtain ⟨va, vc, rfl, hvc, hvm⟩ := h.slice
  simp only [maxLen] at hvm
  by_cases h60 : (60 : Int) < (L.length : Int)
  · have hf : fewO L = false := by unfold fewO; rw [Bool.and_eq_false_iff]; left; simp; omega
    rw [hf]
    go_enter Try.func8, Try.ntmps8
    go_wp2
    go_ret
    exact ⟨rfl, rfl⟩
  · have hfit := h.fit
    obtain ⟨F, hF⟩ : ∃ F, fewO L = F := ⟨_, rfl⟩
    rw [hF]
    have HF := Lib.hid hF
    have HH := Lib.hid h
    have HFIT := Lib.hid hfit
    clear hF h hfit
    go_enter Try.func8, Try.ntmps8
    go_wp2
    go_loopw [3, 4] (fun u3 u4 wr => ∃ i : Nat, i ≤ L.length ∧ u4 = .int .i64 i ∧ u3 = .int .i64 (sumO (L.take i)) ∧ w = wr) (fun _ u4 _ => L.length - (intOf u4).toNat)
    case atStart => exact ⟨0, by omega, rfl, by simp [sumO], rfl⟩
    case round =>
      obtain ⟨i, hi, rfl, rfl, rfl⟩ := hrel
      by_cases hlt : i < L.length
      · obtain ⟨b, off, c, dv, he, -, hd, hft, -, -, -, k3⟩ := ORd.at HH.out i hlt
        obtain ⟨rfl, -, rfl⟩ : va = some ⟨b, off, none⟩ ∧ True ∧ vc = c := by
          simp only [Value.slice.injEq] at he
          exact ⟨he.1, trivial, he.2.2⟩
        obtain ⟨da, dc, rfl, hdc, hdm⟩ := BAt.slice hd
        have hs := sumO_succ L i hlt
        have hb1 := sumO_le (L.take i) (fun o ho => (HFIT.out o (List.mem_of_mem_take ho)).d)
        rw [List.length_take] at hb1
        have hfd := hft.d
        obtain ⟨S, hS⟩ : ∃ S, sumO (L.take i) = S := ⟨_, rfl⟩
        rw [hS] at hs hb1 ⊢
        obtain ⟨D, hD⟩ : ∃ D, L[i].data.length = D := ⟨_, rfl⟩
        rw [hD] at k3 hs hfd
        have hb2 : S ≤ 60 * 140737488355328 := Nat.le_trans hb1 (Nat.mul_le_mul_right _ (by omega))
        have q1 := i64_fit ((S : Int) + (D : Int)) (by omega) (by omega)
        have HS := Lib.hid hs
        clear hs hb1 he hD hS hft hd
        go_wp2
        go_roundw
        case rel => exact ⟨i + 1, by omega, by go_num, by rw [HS.out, Int.natCast_add]; exact ⟨rfl, trivial⟩⟩
        case measure => simp [intOf]; omega
      · obtain rfl : i = L.length := by omega
        rw [List.take_length]
        have hF := HF.out
        unfold fewO at hF
        have hFd : decide ((sumO L : Int) ≤ 3000) = F := by
          rw [← hF, show decide (L.length ≤ 60) = true from decide_eq_true (by omega), Bool.true_and]
          exact decide_eq_decide.2 (by omega)
        obtain ⟨S, hS⟩ : ∃ S, sumO L = S := ⟨_, rfl⟩
        rw [hS] at hFd ⊢
        clear hF hS
        go_wp2
        go_ret
        exact ⟨by rw [← hFd]; rfl, rfl⟩
end Go.Proofs.Ytiodmhcmciohnaa

/-! What stands while a script of a sender's calls runs. -/
namespace Go.Proofs.Ytiodmhcmciohnaa
set_option linter.unusedVariables false
set_option linter.unusedSimpArgs false
open Go.RowKit

theorem RowAt.ne {w : World} {a b T T' : Nat} {cs cs' : Array Value} (h : RowAt w a cs T) (h' : RowAt w b cs' T') (hT : T ≠ T') : a ≠ b := by
  rintro rfl
  have : some (Obj.cells cs T (0, 0)) = some (Obj.cells cs' T' (0, 0)) := h.symm.trans h'
  simp only [Option.some.injEq, Obj.cells.injEq] at this
  exact hT this.2.1

structure SendT (w : World) (g x q : Nat) (room : Int) (s : Nat) (o : OpV) (own dv : Value) (first : Nat) (all l : List UInt8) (bv av : Value) (W : World) : Prop where
  hr : RowAt W g #[.int .i64 room, .int .i64 first, bv] 80
  ho : BOwn W w.heap.size bv l
  hx : RowAt W x #[.int .i64 room, av, .int .i64 first] 55
  ha : BOwn W w.heap.size av all
  hq : RowAt W q #[.int .i64 o.call, .int .i64 o.at', .int .i64 o.n, dv] 35
  hw : BOwn W w.heap.size own o.data
  hd : BRd W dv o.data
  eq : l = all.drop first
  fl : first ≤ all.length
  lr : (l.length : Int) ≤ room
  sm : all.length ≤ s
  ap : ∀ b, bv.ownBlock = some b → av.ownBlock ≠ some b
  ap1 : ∀ b, own.ownBlock = some b → bv.ownBlock ≠ some b
  ap2 : ∀ b, own.ownBlock = some b → av.ownBlock ≠ some b
  gg : w.heap.size ≤ g
  gx : w.heap.size ≤ x
  hk : Keeps (fun _ => False) w W

variable {w W : World} {g x q s first : Nat} {room : Int} {o : OpV} {own dv bv av : Value} {all l : List UInt8}

theorem SendT.keeps {W' : World} (h : SendT w g x q room s o own dv first all l bv av W) (hk : Keeps (fun _ => False) W W') : SendT w g x q room s o own dv first all l bv av W' :=
  ⟨h.hr.keeps hk (fun h => h), h.ho.keeps hk (fun _ _ h => h), h.hx.keeps hk (fun h => h), h.ha.keeps hk (fun _ _ h => h), h.hq.keeps hk (fun h => h), h.hw.keeps hk (fun _ _ h => h), h.hd.keeps hk, h.eq, h.fl, h.lr, h.sm, h.ap, h.ap1, h.ap2, h.gg, h.gx, h.hk.trans hk (fun _ _ h => h)⟩

/-- Both have written. -/
theorem SendT.wrote {W3 W4 : World} {T : List UInt8} {bv3 av4 : Value} (h : SendT w g x q room s o own dv first all l bv av W) (hdw : BAt W (fun b => b < w.heap.size) dv o.data)
    (hk3 : Keeps (fun b => b = g ∨ bv.ownBlock = some b) W W3) (hr3 : RowAt W3 g #[.int .i64 room, .int .i64 first, bv3] 80) (ho3 : BOwn W3 w.heap.size bv3 (l ++ T)) (hp3 : bv3.ownBlock = bv.ownBlock ∨ ∃ b, bv3.ownBlock = some b ∧ W.heap.size ≤ b)
    (hk4 : Keeps (· = x) W3 W4) (hx4 : RowAt W4 x #[.int .i64 room, av4, .int .i64 first] 55) (ha4 : BOwn W4 W3.heap.size av4 (all ++ T)) (hT : T.length ≤ o.data.length) (hlr : ((l ++ T).length : Int) ≤ room) :
    SendT w g x q room (s + o.data.length) o own dv first (all ++ T) (l ++ T) bv3 av4 W4 := by
  have hgx : g ≠ x := h.hr.ne h.hx (by decide)
  have hgq : q ≠ g := h.hq.ne h.hr (by decide)
  have hxq : q ≠ x := h.hq.ne h.hx (by decide)
  have ebg : bv.ownBlock ≠ some q := h.ho.apart h.hq (by decide)
  have ebx : bv.ownBlock ≠ some x := h.ho.apart h.hx (by decide)
  have hownl := fun b hb => h.hw.block b hb
  have hq3 := h.hq.keeps hk3 (fun e => by rcases e with e | e; · exact hgq e
                                          · exact ebg e)
  have hx3 := h.hx.keeps hk3 (fun e => by rcases e with e | e; · exact hgx e.symm
                                          · exact ebx e)
  have hw3 := h.hw.keeps hk3 (fun b hb e => by
    rcases e with rfl | e
    · exact h.hw.apart h.hr (by decide) hb
    · exact h.ap1 b hb e)
  have hgW : W3.heap.size ≤ W4.heap.size := hk4.size
  have hWW : w.heap.size ≤ W3.heap.size := Nat.le_trans h.hk.size hk3.size
  have hb3x : bv3.ownBlock ≠ some x := ho3.apart hx3 (by decide)
  have hk3' : Keeps (fun _ => False) w W3 := h.hk.from hk3 (fun b hb => by
    rcases hb with rfl | hb
    · exact h.gg
    · exact (h.ho.block b hb).1)
  have hk4' : Keeps (fun _ => False) w W4 := hk3'.from hk4 (fun b hb => by subst hb; exact h.gx)
  have hlt3 : ∀ b, bv3.ownBlock = some b → b < W3.heap.size := fun b hb => (ho3.block b hb).2
  have hge4 : ∀ b, av4.ownBlock = some b → W3.heap.size ≤ b := fun b hb => (ha4.block b hb).1
  refine ⟨hr3.keeps hk4 hgx, ho3.keeps hk4 (fun b hb e => hb3x (e ▸ hb)), hx4, ha4.mono hWW, hq3.keeps hk4 hxq, hw3.keeps hk4 (fun b hb e => by subst e; exact h.hw.apart h.hx (by decide) hb), ?_, ?_, ?_, hlr, ?_, ?_, ?_, ?_, h.gg, h.gx, hk4'⟩
  · have hd3 := hdw.keeps hk3 (fun b hb e => by
      rcases e with rfl | e
      · have := h.gg; omega
      · have := (h.ho.block b e).1; omega)
    have hd4 := hd3.keeps hk4 (fun b hb e => by subst e; have := h.gx; omega)
    exact hd4.mono fun b hb => Nat.lt_of_lt_of_le hb (Nat.le_trans hWW hgW)
  · rw [List.drop_append_of_le_length h.fl, ← h.eq]
  · rw [List.length_append]; have := h.fl; omega
  · rw [List.length_append]; have := h.sm; omega
  · intro b hb e
    have h1 := hlt3 b hb
    have h2 := hge4 b e
    omega
  · intro b hb e
    rcases hp3 with h1 | ⟨b', h1, h2⟩
    · exact h.ap1 b hb (h1 ▸ e)
    · rw [h1] at e
      have h3 := (hownl b hb).2
      have : b' = b := Option.some.inj e
      omega
  · intro b hb e
    have h1 := (hownl b hb).2
    have h2 := hge4 b e
    have h3 := hk3.size
    omega

/-- Both have dropped. -/
theorem SendT.dropped {W3 W4 : World} {d : Nat} {bv3 : Value} (h : SendT w g x q room s o own dv first all l bv av W) (hdw : BAt W (fun b => b < w.heap.size) dv o.data)
    (hk3 : Keeps (fun b => b = g ∨ bv.ownBlock = some b) W W3) (hr3 : RowAt W3 g #[.int .i64 room, .int .i64 ((first : Int) + (d : Int)), bv3] 80) (ho3 : BOwn W3 w.heap.size bv3 (l.drop d)) (hp3 : bv3.ownBlock = bv.ownBlock)
    (hk4 : Keeps (· = x) W3 W4) (hx4 : RowAt W4 x #[.int .i64 room, av, .int .i64 ((first : Int) + (d : Int))] 55) (hdl : d ≤ l.length) :
    SendT w g x q room (s + o.data.length) o own dv (first + d) all (l.drop d) bv3 av W4 := by
  have hgx : g ≠ x := h.hr.ne h.hx (by decide)
  have hgq : q ≠ g := h.hq.ne h.hr (by decide)
  have hxq : q ≠ x := h.hq.ne h.hx (by decide)
  have ebg : bv.ownBlock ≠ some q := h.ho.apart h.hq (by decide)
  have ebx : bv.ownBlock ≠ some x := h.ho.apart h.hx (by decide)
  have hq3 := h.hq.keeps hk3 (fun e => by rcases e with e | e; · exact hgq e
                                          · exact ebg e)
  have hw3 := h.hw.keeps hk3 (fun b hb e => by
    rcases e with rfl | e
    · exact h.hw.apart h.hr (by decide) hb
    · exact h.ap1 b hb e)
  have ha3 := h.ha.keeps hk3 (fun b hb e => by
    rcases e with rfl | e
    · exact h.ha.apart h.hr (by decide) hb
    · exact h.ap b e hb)
  have hgW : W3.heap.size ≤ W4.heap.size := hk4.size
  have hWW : w.heap.size ≤ W3.heap.size := Nat.le_trans h.hk.size hk3.size
  have hk3' : Keeps (fun _ => False) w W3 := h.hk.from hk3 (fun b hb => by
    rcases hb with rfl | hb
    · exact h.gg
    · exact (h.ho.block b hb).1)
  have hk4' : Keeps (fun _ => False) w W4 := hk3'.from hk4 (fun b hb => by subst hb; exact h.gx)
  have hlen : all.length = first + l.length := by have h1 := h.eq; have h2 := h.fl; rw [h1, List.length_drop]; omega
  refine ⟨by rw [Int.natCast_add]; exact hr3.keeps hk4 hgx, ho3.keeps hk4 (fun b hb e => by subst e; exact ebx (hp3 ▸ hb)), by rw [Int.natCast_add]; exact hx4, ha3.keeps hk4 (fun b hb e => by subst e; exact h.ha.apart h.hx (by decide) hb), hq3.keeps hk4 hxq, hw3.keeps hk4 (fun b hb e => by subst e; exact h.hw.apart h.hx (by decide) hb), ?_, ?_, by omega, ?_, ?_, ?_, ?_, h.ap2, h.gg, h.gx, hk4'⟩
  · have hd3 := hdw.keeps hk3 (fun b hb e => by
      rcases e with rfl | e
      · have := h.gg; omega
      · have := (h.ho.block b e).1; omega)
    have hd4 := hd3.keeps hk4 (fun b hb e => by subst e; have := h.gx; omega)
    exact hd4.mono fun b hb => Nat.lt_of_lt_of_le hb (Nat.le_trans hWW hgW)
  · rw [h.eq, List.drop_drop]
  · rw [List.length_drop]; have := h.lr; omega
  · have := h.sm; omega
  · intro b hb; exact h.ap b (hp3 ▸ hb)
  · intro b hb; rw [hp3]; exact h.ap1 b hb
theorem SendT.more (h : SendT w g x q room s o own dv first all l bv av W) : SendT w g x q room (s + o.data.length) o own dv first all l bv av W :=
  { h with sm := Nat.le_trans h.sm (Nat.le_add_right _ _) }

structure SendI (w : World) (g x : Nat) (room : Int) (s : Nat) (first : Nat) (all l : List UInt8) (bv av : Value) (W : World) : Prop where
  hr : RowAt W g #[.int .i64 room, .int .i64 first, bv] 80
  ho : BOwn W w.heap.size bv l
  hx : RowAt W x #[.int .i64 room, av, .int .i64 first] 55
  ha : BOwn W w.heap.size av all
  eq : l = all.drop first
  fl : first ≤ all.length
  lr : (l.length : Int) ≤ room
  sm : all.length ≤ s
  ap : ∀ b, bv.ownBlock = some b → av.ownBlock ≠ some b
  gg : w.heap.size ≤ g
  gx : w.heap.size ≤ x
  hk : Keeps (fun _ => False) w W
theorem SendI.opened {W2 : World} (h : SendI w g x room s first all l bv av W) (hk2 : Keeps (fun _ => False) W W2) (hq : RowAt W2 q #[.int .i64 o.call, .int .i64 o.at', .int .i64 o.n, dv] 35) (hw : BOwn W2 W.heap.size own o.data) (hd : BRd W2 dv o.data) :
    SendT w g x q room s o own dv first all l bv av W2 :=
  ⟨h.hr.keeps hk2 (fun h => h), h.ho.keeps hk2 (fun _ _ h => h), h.hx.keeps hk2 (fun h => h), h.ha.keeps hk2 (fun _ _ h => h), hq, hw.mono h.hk.size, hd, h.eq, h.fl, h.lr, h.sm, h.ap,
    fun b hb e => by have h1 := (hw.block b hb).1; have h2 := (h.ho.block b e).2; omega, fun b hb e => by have h1 := (hw.block b hb).1; have h2 := (h.ha.block b e).2; omega, h.gg, h.gx, h.hk.trans hk2 (fun _ _ h => h)⟩
theorem SendT.closed {W' : World} (h : SendT w g x q room s o own dv first all l bv av W) (hk : Keeps (fun b => own.ownBlock = some b) W W') : SendI w g x room s first all l bv av W' :=
  ⟨h.hr.keeps hk (h.hw.apart h.hr (by decide)), h.ho.keeps hk (fun b hb e => h.ap1 b e hb), h.hx.keeps hk (h.hw.apart h.hx (by decide)), h.ha.keeps hk (fun b hb e => h.ap2 b e hb), h.eq, h.fl, h.lr, h.sm, h.ap, h.gg, h.gx, h.hk.from hk (fun b hb => (h.hw.block b hb).1)⟩

theorem ends_own {B : Nat} (h : RowAt W g #[.int .i64 room, .int .i64 first, bv] 80) (ho : BOwn W B bv l) (n : Nat) (hn : first + l.length = n) (h2 : n ≤ 1000000) :
    Calls Try.prog 29 #[.pointer (some ⟨g, 0, none⟩)] W fun e w' => e = .returned (.tuple #[.int .i64 first, .int .i64 n]) ∧ ∃ m, w' = W.drewN m := by
  obtain ⟨ba, bc, rfl, -, -⟩ := BOwn.slice ho
  have := ends_any g room first _ l.length ba bc W h rfl (by omega) (by omega) (by omega)
  rw [show (first : Int) + (l.length : Int) = (n : Int) by omega] at this
  exact this
theorem peek_own {B i k : Nat} {n : Int} (h : RowAt W g #[.int .i64 room, .int .i64 first, bv] 80) (ho : BOwn W B bv l) (h2 : first ≤ 1000000) (hi : i ≤ l.length) (hl : l.length ≤ 1000000) (hn0 : 0 ≤ n) (hn : (k : Int) = if (l.length : Int) - (i : Int) < n then (l.length : Int) - (i : Int) else n) :
    Calls Try.prog 25 #[.pointer (some ⟨g, 0, none⟩), .int .i64 ((first : Int) + (i : Int)), .int .i64 n] W fun e w' => ∃ v, e = .returned (.tuple #[v, .int .i64 0]) ∧ BOwn w' W.heap.size v ((l.drop i).take k) ∧ Keeps (fun _ => False) W w' := by
  obtain ⟨ba, bc, rfl, -, -⟩ := BOwn.slice ho
  exact peek_any g i k bc ba room first n l W h ho.bat.low (by omega) (by omega) hi hl hn0 hn
theorem peek_ownbad {B : Nat} {at' k : Int} (h : RowAt W g #[.int .i64 room, .int .i64 first, bv] 80) (ho : BOwn W B bv l) (h2 : first ≤ 1000000) (hl : l.length ≤ 1000000) (hat : at' ≤ 9223372036854775807) (hbad : at' < first ∨ (l.length : Int) < at' - first ∨ k < 0) :
    Calls Try.prog 25 #[.pointer (some ⟨g, 0, none⟩), .int .i64 at', .int .i64 k] W fun e w' => e = .returned (.tuple #[.slice none 0 0, .int .i64 1]) ∧ ∃ m, w' = W.drewN m := by
  obtain ⟨ba, bc, rfl, -, -⟩ := BOwn.slice ho
  exact peek_bad g l.length bc ba room first at' k W h (by omega) (by omega) (by omega) hat hbad
theorem drop_ownbad {B : Nat} {at' : Int} (h : RowAt W g #[.int .i64 room, .int .i64 first, bv] 80) (ho : BOwn W B bv l) (h2 : first ≤ 1000000) (hat : at' ≤ 9223372036854775807) (hbad : at' < first ∨ (l.length : Int) < at' - first) :
    Calls Try.prog 27 #[.pointer (some ⟨g, 0, none⟩), .int .i64 at'] W fun e w' => e = .returned (.tuple #[.int .i64 0, .int .i64 1]) ∧ ∃ m, w' = W.drewN m := by
  obtain ⟨ba, bc, rfl, -, -⟩ := BOwn.slice ho
  exact drop_bad g l.length bc ba room first at' W h (by omega) hat hbad
end Go.Proofs.Ytiodmhcmciohnaa

/-! The law FlowSends. -/
namespace Go.Proofs.Ytiodmhcmciohnaa
set_option linter.unusedVariables false
set_option linter.unusedSimpArgs false
open Go.RowKit

set_option maxRecDepth 100000 in
set_option maxHeartbeats 8000000 in
theorem lsends_any (room : Int) (rv : Value) (L : List OpV) (w : World) (hR : ORd w rv L) (_ : (Lit.int .i64 room).wf = true) :
    Calls Try.prog 5 #[.int .i64 room, rv] w fun e w' => e = .returned (.bool true) ∧ Keeps (fun _ => False) w w' := by
  have hfew := few_any rv L w hR
  obtain ⟨ra, rc, rfl, hrc, hrm⟩ := hR.slice
  simp only [maxLen] at hrm
  have hns := news_any room w
  unfold NewR at hns
  cases hF : fewO L with
  | false =>
    rw [hF] at hfew
    have HF := Lib.hid hfew
    clear hfew hR hns hF
    go_enter Try.func5, Try.ntmps5
    go_wp2_with fail
    refine HF.out.mono ?_
    rintro e w2 ⟨rfl, rfl⟩
    go_wp2_with fail
    go_ret
    exact ⟨rfl, Keeps.refl _ _⟩
  | true =>
    have hFF : L.length ≤ 60 ∧ sumO L ≤ 3000 := by
      unfold fewO at hF
      rw [Bool.and_eq_true] at hF
      exact ⟨of_decide_eq_true hF.1, of_decide_eq_true hF.2⟩
    rw [hF] at hfew
    have HF := Lib.hid hfew
    have HNS := Lib.hid hns
    have HH := Lib.hid hR
    clear hfew hR hns hF
    cases hb : mayR room with
    | false =>
      have hb' := hb
      unfold mayR at hb'
      simp only [Bool.and_eq_false_iff, decide_eq_false_iff_not] at hb'
      rw [hb] at HNS
      by_cases hb1 : room < 1
      · clear hb' hb HH
        go_enter Try.func5, Try.ntmps5
        go_wp2_with fail
        refine HF.out.mono ?_
        rintro e w2 ⟨rfl, rfl⟩
        go_wp2_with fail
        refine HNS.out.mono ?_
        rintro e w2 ⟨hk2, ⟨-, rfl⟩ | ⟨h, -⟩⟩
        rotate_left 1
        · cases h
        go_wp2_with (go_at_call 10; refine (awake_any _).mono ?_; rintro e w9 ⟨rfl, hk9⟩)
        go_ret
        exact ⟨rfl, hk2.trans hk9 (fun _ _ h => h)⟩
      · have hb2 : (65535 : Int) < room := by omega
        clear hb' hb HH
        go_enter Try.func5, Try.ntmps5
        go_wp2_with fail
        refine HF.out.mono ?_
        rintro e w2 ⟨rfl, rfl⟩
        go_wp2_with fail
        refine HNS.out.mono ?_
        rintro e w2 ⟨hk2, ⟨-, rfl⟩ | ⟨h, -⟩⟩
        rotate_left 1
        · cases h
        go_wp2_with (go_at_call 10; refine (awake_any _).mono ?_; rintro e w9 ⟨rfl, hk9⟩)
        go_ret
        exact ⟨rfl, hk2.trans hk9 (fun _ _ h => h)⟩
    | true =>
      have hb' := hb
      unfold mayR at hb'
      simp only [Bool.and_eq_true, decide_eq_true_eq] at hb'
      obtain ⟨hb1, hb2⟩ := hb'
      rw [hb] at HNS
      have n1 : ¬ room < 1 := by omega
      have n2 : ¬ (65535 : Int) < room := by omega
      clear hb
      go_enter Try.func5, Try.ntmps5
      go_wp2_with fail
      refine HF.out.mono ?_
      rintro e w2 ⟨rfl, rfl⟩
      go_wp2_with fail
      refine HNS.out.mono ?_
      rintro e w2 ⟨hk2, ⟨h, -⟩ | ⟨-, g, rfl, hg, hrg⟩⟩
      · cases h
      clear HNS HF
      go_wp2_with fail
      have hI : SendI w g w2.heap.size room 0 0 [] [] (.slice none 0 0) (.slice none 0 0) (w2.alloc (.cells #[.int .i64 room, .slice none 0 0, .int .i64 0] 55)) :=
        ⟨hrg.alloc _, BOwn.nil _ _, RowAt.new _ _ _, BOwn.nil _ _, rfl, Nat.le_refl _, by simp; omega, Nat.le_refl _, fun b e => by simp [Value.ownBlock] at e, hg, hk2.size, hk2.alloc _⟩
      obtain ⟨x, hx⟩ : ∃ x, w2.heap.size = x := ⟨_, rfl⟩
      rw [hx] at hI ⊢
      go_loopw [8] (fun u8 wr => ∃ (i first : Nat) (all l : List UInt8) (bv av : Value), i ≤ L.length ∧ u8 = .int .i64 i ∧ SendI w g x room (sumO (L.take i)) first all l bv av wr) (fun u8 _ => L.length - (intOf u8).toNat)
      case atStart => exact ⟨0, 0, [], [], _, _, Nat.zero_le _, rfl, hI⟩
      case round =>
        obtain ⟨i, first, all, l, bv, av, hi, rfl, hI2⟩ := hrel
        have HI := Lib.hid hI2
        clear hI2 hI hx hrg hk2
        by_cases hlt : i < L.length
        · obtain ⟨b, off, c', dv, he, hbl, hd, hft, k0, k1, k2, k3⟩ := ORd.at HH.out i hlt
          obtain ⟨rfl, -, rfl⟩ : ra = some ⟨b, off, none⟩ ∧ True ∧ rc = c' := by
            simp only [Value.slice.injEq] at he
            exact ⟨he.1, trivial, he.2.2⟩
          have hss := sumO_succ L i hlt
          have hsl : sumO (L.take (i + 1)) ≤ sumO L := by
            have h1 := congrArg sumO (List.take_append_drop (i + 1) L)
            unfold sumO at *
            rw [List.map_append, List.sum_append] at h1
            omega
          obtain ⟨o, ho⟩ : ∃ o, L[i] = o := ⟨_, rfl⟩
          rw [ho] at hd hft k0 k1 k2 hss
          clear he ho
          obtain ⟨call, at', n, data⟩ := o
          obtain ⟨da, dc, rfl, hdc, hdm⟩ := BAt.slice hd
          obtain ⟨fc1, fc2, fa1, fa2, fn1, fn2, -⟩ := hft
          simp only at fc1 fc2 fa1 fa2 fn1 fn2 hss hd k0 k1 k2 k3 hdc
          obtain ⟨s, hs⟩ : ∃ s, sumO (L.take i) = s := ⟨_, rfl⟩
          rw [hs] at HI hss
          have hs3 : s + data.length ≤ 3000 := by omega
          have HSS := Lib.hid hss
          have HD := Lib.hid hd
          have e0 := HI.out.hk.cell k0 (fun h => h)
          have e1 := HI.out.hk.cell k1 (fun h => h)
          have e2 := HI.out.hk.cell k2 (fun h => h)
          have e3 := HI.out.hk.cell k3 (fun h => h)
          clear hss hs k0 k1 k2 k3 hd hsl hFF
          go_wp2_with fail
          have hkA := ((Keeps.refl (fun _ => False) wr).alloc (.cells #[.int .i64 call, .int .i64 at', .int .i64 n, .slice da data.length dc] 35))
          have hkB := hkA.alloc (.cells #[.slice da data.length dc] 30)
          have hqA := (RowAt.new wr #[.int .i64 call, .int .i64 at', .int .i64 n, .slice da data.length dc] 35).alloc (.cells #[.slice da data.length dc] 30)
          have hdA : BRd (wr.alloc (.cells #[.int .i64 call, .int .i64 at', .int .i64 n, .slice da data.length dc] 35)) (.slice da data.length dc) data := HD.out.keeps (HI.out.hk.trans hkA (fun _ _ h => h))
          have hszA : (wr.alloc (.cells #[.int .i64 call, .int .i64 at', .int .i64 n, .slice da data.length dc] 35)).heap.size = wr.heap.size + 1 := Array.size_push _
          have hbA := (BBAt.one (T := 30) hdA).low
          rw [hszA] at hbA
          refine (both_any _ [data] _ hbA (by simp; omega)).mono ?_
          clear hbA hszA
          rintro e w3 ⟨v3, rfl, ho3, hk3⟩
          rw [show [data].flatten = data by simp] at ho3
          obtain ⟨oa, oc, rfl, -, -⟩ := BOwn.slice ho3
          have hk03 := hkB.trans hk3 (fun _ _ h => h)
          have hT := SendI.opened (q := wr.heap.size) (o := ⟨call, at', n, data⟩) (own := .slice oa data.length oc) (dv := .slice da data.length dc) HI.out hk03 (hqA.keeps hk3 (fun h => h)) (ho3.mono hkB.size) (HD.out.keeps (HI.out.hk.trans hk03 (fun _ _ h => h)))
          have hdw : BAt w3 (fun b => b < w.heap.size) (.slice da data.length dc) data := BAt.keeps HD.out hT.hk (fun _ _ h => h)
          clear hk03 hk3 ho3 hdA hqA hkB hkA e0 e1 e2 e3 HD HI
          generalize wr.heap.size = q at *
          have HT := Lib.hid hT
          have HDW := Lib.hid hdw
          have j0 : w3.cell? ⟨q, 0, none⟩ = some (.int .i64 call) := hT.hq.cell 0
          have j1 : w3.cell? ⟨q, 1, none⟩ = some (.int .i64 at') := hT.hq.cell 1
          have j2 : w3.cell? ⟨q, 2, none⟩ = some (.int .i64 n) := hT.hq.cell 2
          have j3 : w3.cell? ⟨q, 3, none⟩ = some (.slice da data.length dc) := hT.hq.cell 3
          have hal : all.length ≤ 3000 := by have := hT.sm; omega
          have hll : l.length + first = all.length := by have h1 := hT.eq; have h2 := hT.fl; rw [h1, List.length_drop]; omega
          clear hT hdw
          by_cases hc0 : call = 0
          · subst hc0
            obtain ⟨m, hm⟩ : ∃ m : Nat, (m : Int) = if room - (l.length : Int) < (data.length : Int) then room - (l.length : Int) else (data.length : Int) := ⟨(if room - (l.length : Int) < (data.length : Int) then room - (l.length : Int) else (data.length : Int)).toNat, by have := HT.out.lr; split <;> omega⟩
            have HM := Lib.hid hm
            have HW := Lib.hid (write_any g w.heap.size m room first bv (.slice oa data.length oc) l data w3 HT.out.hr HT.out.ho HT.out.hw.bat.low HT.out.hk.size hb2 HT.out.lr (by omega) hm)
            clear hm
            go_wp2_with fail
            refine HW.out.mono ?_
            rintro e w4 ⟨rfl, hk4, bv4, hr4, ho4, hp4⟩
            have hgx : g ≠ x := HT.out.hr.ne HT.out.hx (by decide)
            have hx4 := HT.out.hx.keeps hk4 (fun e => by rcases e with e | e; · exact hgx e.symm
                                                         · exact HT.out.ho.apart HT.out.hx (by decide) e)
            have ha4 := HT.out.ha.keeps hk4 (fun b hb e => by
              rcases e with rfl | e
              · exact HT.out.ha.apart HT.out.hr (by decide) hb
              · exact HT.out.ap b e hb)
            have hd4 : BAt w4 (fun b => b < w.heap.size) (.slice da data.length dc) data := HDW.out.keeps hk4 (fun b hb e => by
              rcases e with rfl | e
              · have := HT.out.gg; omega
              · have := (HT.out.ho.block b e).1; omega)
            have hq4 := HT.out.hq.keeps hk4 (fun e => by rcases e with e | e; · exact HT.out.hq.ne HT.out.hr (by decide) e
                                                         · exact HT.out.ho.apart HT.out.hq (by decide) e)
            have j34 : w4.cell? ⟨q, 3, none⟩ = some (.slice da data.length dc) := hq4.cell 3
            have hww : w.heap.size ≤ w4.heap.size := Nat.le_trans HT.out.hk.size hk4.size
            have HRW := Lib.hid (rwrite_any x m room first av (.slice da data.length dc) all data w4 hx4 ha4.bat.low (hd4.mono fun b hb => Nat.lt_of_lt_of_le hb hww) (by omega) hb2 (by omega) (by have := HT.out.lr; omega) (by omega) (by omega) (by rw [HM.out, show (all.length : Int) - (first : Int) = (l.length : Int) by omega]))
            clear j0 j1 j2 j3 hq4 ha4 hx4
            go_wp2_with fail
            refine HRW.out.mono ?_
            rintro e w5 ⟨rfl, hk5, av5, hr5, ho5⟩
            have hml : m ≤ data.length := by have := HM.out; split at this <;> omega
            have hT5 := SendT.wrote HT.out HDW.out hk4 hr4 ho4 hp4 hk5 hr5 ho5 (by rw [List.length_take]; exact Nat.min_le_right _ _) (by rw [List.length_append, List.length_take]; have h8 := HT.out.lr; have h9 := HM.out; split at h9 <;> omega)
            clear hk4 hr4 ho4 hp4 hk5 hr5 ho5 HT HDW hd4 j34 HW HRW HM hml hgx hww
            have HU := Lib.hid hT5
            obtain ⟨aa9, ac9, hav, -, -⟩ := BOwn.slice HU.out.ha
            subst hav
            obtain ⟨N, hN⟩ : ∃ N, ((all ++ data.take m)).length = N := ⟨_, rfl⟩
            have hNs : N ≤ 3000 := by have h3 : ((all ++ data.take m)).length ≤ s + data.length := HU.out.sm; omega
            have hFl : first + ((l ++ data.take m)).length = N := by have h1 := HU.out.eq; have h2 := HU.out.fl; rw [h1, List.length_drop]; omega
            have HEN := Lib.hid (ends_own HU.out.hr HU.out.ho N hFl (by omega))
            clear hT5 hFl
            go_wp2_with fail
            refine HEN.out.mono ?_
            rintro e w8 ⟨rfl, m8, rfl⟩
            have hT8 := HU.out.keeps ((Keeps.refl (fun _ => False) w5).drewN m8)
            generalize (w5).drewN m8 = W8 at *
            have p1 : W8.cell? ⟨x, 1, none⟩ = some (.slice aa9 N ac9) := by have := hT8.hx.cell 1; rw [hN] at this; exact this
            have p2 : W8.cell? ⟨x, 2, none⟩ = some (.int .i64 (first : Nat)) := hT8.hx.cell 2
            have p3 : W8.cell? ⟨q, 3, none⟩ = some (.slice da data.length dc) := hT8.hq.cell 3
            have tO := hT8.hw.bat.text
            have tD := hT8.hd.text
            have HT8 := Lib.hid hT8
            clear hT8 HEN HU hN hNs
            go_wp2
            clear p1 p2 p3 tO tD
            go_loopw [27] (fun uu wx => ∃ (k : Nat) (l' : List UInt8), k ≤ data.length ∧ l'.length = data.length ∧ uu = .int .i64 k ∧ BOwn wx w.heap.size (.slice oa data.length oc) l' ∧ Keeps (fun b => (Value.slice oa data.length oc).ownBlock = some b) W8 wx) (fun uu _ => data.length - (intOf uu).toNat)
            case atStart => exact ⟨0, _, Nat.zero_le _, rfl, rfl, HT8.out.hw, Keeps.refl _ _⟩
            case round =>
              obtain ⟨k9, l9, hk9, hl9, rfl, hb9, hkx⟩ := hrel
              by_cases hkd : k9 < data.length
              · obtain ⟨h9, o9, c9, e9, -, -, -⟩ := BOwn.place hb9 (by omega)
                simp only [Value.slice.injEq] at e9
                obtain ⟨rfl, -, rfl⟩ := e9
                obtain ⟨z1, z2, z3⟩ := BOwn.at hb9 k9 (by omega)
                have Z3 := Lib.hid z3
                clear z3
                go_wp2
                go_roundw
                case rel => exact ⟨k9 + 1, l9.set k9 7, by omega, by rw [List.length_set]; exact hl9, by go_num, Z3.out 7, hkx.setCell _ _ (.inl rfl)⟩
                case measure => simp [intOf]; omega
              · obtain rfl : k9 = data.length := by omega
                clear hkd hk9
                go_wp2
                go_roundw
                case rel => exact ⟨i + 1, first, (all ++ data.take m), (l ++ data.take m), _, _, by omega, by go_num, by rw [HSS.out]; exact HT8.out.closed hkx⟩
                case measure => simp [intOf]; omega
          · by_cases hc1 : call = 1
            · subst hc1
              clear hc0 fc1 fc2
              by_cases hbad : at' < first ∨ (l.length : Int) < at' - first ∨ n < 0
              · have HP := Lib.hid (peek_ownbad (k := n) HT.out.hr HT.out.ho (by omega) (by omega) fa2 hbad)
                have HRP0 := fun mm => rpeek_bad x room first at' n av all (w3.drewN mm) (HT.out.hx.drewN mm) (HT.out.ha.keeps ((Keeps.refl (fun _ => False) w3).drewN mm) (fun _ _ h => h)).bat.low (by omega)
                have HRP := Lib.hid HRP0
                clear HRP0
                clear hbad
                go_wp2_with fail
                refine HP.out.mono ?_
                rintro e w4 ⟨rfl, m4, rfl⟩
                go_wp2_with fail
                refine (HRP.out m4).mono ?_
                rintro e w5 ⟨rfl, rfl⟩
                have hT5 := (HT.out.keeps ((Keeps.refl (fun _ => False) w3).drewN m4)).more
                generalize w3.drewN m4 = w5 at *
                have tN := (BAt.nil w5 (fun _ => True)).text
                clear HP HRP HT HDW j0 j1 j2 j3
                go_wp2_with fail
                clear tN
                refine wp_loop_rounds 1 ?_
                rw [rounds_succ]
                have HU := Lib.hid hT5
                obtain ⟨aa9, ac9, hav, -, -⟩ := BOwn.slice HU.out.ha
                subst hav
                obtain ⟨N, hN⟩ : ∃ N, (all).length = N := ⟨_, rfl⟩
                have hNs : N ≤ 3000 := by have h3 : (all).length ≤ s + data.length := HU.out.sm; omega
                have hFl : first + (l).length = N := by have h1 := HU.out.eq; have h2 := HU.out.fl; rw [h1, List.length_drop]; omega
                have HEN := Lib.hid (ends_own HU.out.hr HU.out.ho N hFl (by omega))
                clear hT5 hFl
                go_wp2_with fail
                refine HEN.out.mono ?_
                rintro e w8 ⟨rfl, m8, rfl⟩
                have hT8 := HU.out.keeps ((Keeps.refl (fun _ => False) w5).drewN m8)
                generalize (w5).drewN m8 = W8 at *
                have p1 : W8.cell? ⟨x, 1, none⟩ = some (.slice aa9 N ac9) := by have := hT8.hx.cell 1; rw [hN] at this; exact this
                have p2 : W8.cell? ⟨x, 2, none⟩ = some (.int .i64 (first : Nat)) := hT8.hx.cell 2
                have p3 : W8.cell? ⟨q, 3, none⟩ = some (.slice da data.length dc) := hT8.hq.cell 3
                have tO := hT8.hw.bat.text
                have tD := hT8.hd.text
                have HT8 := Lib.hid hT8
                clear hT8 HEN HU hN hNs
                go_wp2
                clear p1 p2 p3 tO tD
                go_loopw [27] (fun uu wx => ∃ (k : Nat) (l' : List UInt8), k ≤ data.length ∧ l'.length = data.length ∧ uu = .int .i64 k ∧ BOwn wx w.heap.size (.slice oa data.length oc) l' ∧ Keeps (fun b => (Value.slice oa data.length oc).ownBlock = some b) W8 wx) (fun uu _ => data.length - (intOf uu).toNat)
                case atStart => exact ⟨0, _, Nat.zero_le _, rfl, rfl, HT8.out.hw, Keeps.refl _ _⟩
                case round =>
                  obtain ⟨k9, l9, hk9, hl9, rfl, hb9, hkx⟩ := hrel
                  by_cases hkd : k9 < data.length
                  · obtain ⟨h9, o9, c9, e9, -, -, -⟩ := BOwn.place hb9 (by omega)
                    simp only [Value.slice.injEq] at e9
                    obtain ⟨rfl, -, rfl⟩ := e9
                    obtain ⟨z1, z2, z3⟩ := BOwn.at hb9 k9 (by omega)
                    have Z3 := Lib.hid z3
                    clear z3
                    go_wp2
                    go_roundw
                    case rel => exact ⟨k9 + 1, l9.set k9 7, by omega, by rw [List.length_set]; exact hl9, by go_num, Z3.out 7, hkx.setCell _ _ (.inl rfl)⟩
                    case measure => simp [intOf]; omega
                  · obtain rfl : k9 = data.length := by omega
                    clear hkd hk9
                    go_wp2
                    go_roundw
                    case rel => exact ⟨i + 1, first, all, l, _, _, by omega, by go_num, by rw [HSS.out]; exact HT8.out.closed hkx⟩
                    case measure => simp [intOf]; omega
              · obtain ⟨ii, rfl⟩ : ∃ ii : Nat, at' = (first : Int) + (ii : Int) := ⟨(at' - first).toNat, by omega⟩
                have hii : ii ≤ l.length := by omega
                have hn0 : 0 ≤ n := by omega
                obtain ⟨k, hk⟩ : ∃ k : Nat, (k : Int) = if (l.length : Int) - (ii : Int) < n then (l.length : Int) - (ii : Int) else n := ⟨(if (l.length : Int) - (ii : Int) < n then (l.length : Int) - (ii : Int) else n).toNat, by split <;> omega⟩
                have HP := Lib.hid (peek_own HT.out.hr HT.out.ho (by omega) hii (by omega) hn0 hk)
                have HRP0 := fun W hkW => rpeek_any x ii k room first n av all W (HT.out.hx.keeps hkW (fun h => h)) (HT.out.ha.keeps hkW (fun _ _ h => h)).bat.low (by omega) (by omega) hn0 (by rw [hk, show (all.length : Int) - ((first : Int) + (ii : Int)) = (l.length : Int) - (ii : Int) by omega])
                have HRP := Lib.hid HRP0
                have hDD : (all.drop (first + ii)).take k = (l.drop ii).take k := by rw [HT.out.eq, List.drop_drop]
                obtain ⟨D, hD⟩ : ∃ D, (l.drop ii).take k = D := ⟨_, rfl⟩
                have hDl : D.length ≤ 3000 := by rw [← hD, List.length_take, List.length_drop]; omega
                rw [hD] at HP hDD
                rw [hDD] at HRP
                clear hbad HRP0 hk hD hDD hii
                go_wp2_with fail
                refine HP.out.mono ?_
                rintro e w4 ⟨v4, rfl, ho4, hk4⟩
                have j41 := hk4.cell j1 (fun h => h)
                have j42 := hk4.cell j2 (fun h => h)
                obtain ⟨a4, c4, rfl, -, -⟩ := BOwn.slice ho4
                clear j0 j1 j2 j3
                go_wp2_with fail
                refine (HRP.out w4 hk4).mono ?_
                rintro e w5 ⟨v5, rfl, ho5, hk5⟩
                have ho45 := ho4.keeps hk5 (fun _ _ h => h)
                have hk35 : Keeps (fun _ => False) w3 w5 := hk4.trans hk5 (fun _ _ h => h)
                have tA := ho45.bat.text
                have tB := ho5.bat.text
                obtain ⟨a5, c5, rfl, -, -⟩ := BOwn.slice ho5
                have HO45 := Lib.hid ho45
                clear ho45 ho4 ho5 hk4 hk5 j41 j42 HP HRP
                go_wp2_with fail
                clear tA tB
                go_loopw [20] (fun uu wx => ∃ (k : Nat) (l' : List UInt8), k ≤ D.length ∧ l'.length = D.length ∧ uu = .int .i64 k ∧ BOwn wx w3.heap.size (.slice a4 D.length c4) l' ∧ Keeps (fun b => (Value.slice a4 D.length c4).ownBlock = some b) w5 wx) (fun uu _ => D.length - (intOf uu).toNat)
                case atStart => exact ⟨0, _, Nat.zero_le _, rfl, rfl, HO45.out, Keeps.refl _ _⟩
                case round =>
                  obtain ⟨k9, l9, hk9, hl9, rfl, hb9, hkx⟩ := hrel
                  by_cases hkd : k9 < D.length
                  · obtain ⟨h9, o9, c9, e9, -, -, -⟩ := BOwn.place hb9 (by omega)
                    simp only [Value.slice.injEq] at e9
                    obtain ⟨rfl, -, rfl⟩ := e9
                    obtain ⟨z1, z2, z3⟩ := BOwn.at hb9 k9 (by omega)
                    have Z3 := Lib.hid z3
                    clear z3
                    go_wp2
                    go_roundw
                    case rel => exact ⟨k9 + 1, l9.set k9 7, by omega, by rw [List.length_set]; exact hl9, by go_num, Z3.out 7, hkx.setCell _ _ (.inl rfl)⟩
                    case measure => simp [intOf]; omega
                  · obtain rfl : k9 = D.length := by omega
                    have hk3x : Keeps (fun _ => False) w3 wr := hk35.from hkx (fun b hb => (HO45.out.block b hb).1)
                    have hT5 := (HT.out.keeps hk3x).more
                    clear hkd hk9 hkx hb9 hl9 HO45 HT HDW hk35 hk3x
                    have HU := Lib.hid hT5
                    obtain ⟨aa9, ac9, hav, -, -⟩ := BOwn.slice HU.out.ha
                    subst hav
                    obtain ⟨N, hN⟩ : ∃ N, (all).length = N := ⟨_, rfl⟩
                    have hNs : N ≤ 3000 := by have h3 : (all).length ≤ s + data.length := HU.out.sm; omega
                    have hFl : first + (l).length = N := by have h1 := HU.out.eq; have h2 := HU.out.fl; rw [h1, List.length_drop]; omega
                    have HEN := Lib.hid (ends_own HU.out.hr HU.out.ho N hFl (by omega))
                    clear hT5 hFl
                    go_wp2_with fail
                    refine HEN.out.mono ?_
                    rintro e w8 ⟨rfl, m8, rfl⟩
                    have hT8 := HU.out.keeps ((Keeps.refl (fun _ => False) wr).drewN m8)
                    generalize (wr).drewN m8 = W8 at *
                    have p1 : W8.cell? ⟨x, 1, none⟩ = some (.slice aa9 N ac9) := by have := hT8.hx.cell 1; rw [hN] at this; exact this
                    have p2 : W8.cell? ⟨x, 2, none⟩ = some (.int .i64 (first : Nat)) := hT8.hx.cell 2
                    have p3 : W8.cell? ⟨q, 3, none⟩ = some (.slice da data.length dc) := hT8.hq.cell 3
                    have tO := hT8.hw.bat.text
                    have tD := hT8.hd.text
                    have HT8 := Lib.hid hT8
                    clear hT8 HEN HU hN hNs
                    go_wp2
                    clear p1 p2 p3 tO tD
                    go_loopw [27] (fun uu wx => ∃ (k : Nat) (l' : List UInt8), k ≤ data.length ∧ l'.length = data.length ∧ uu = .int .i64 k ∧ BOwn wx w.heap.size (.slice oa data.length oc) l' ∧ Keeps (fun b => (Value.slice oa data.length oc).ownBlock = some b) W8 wx) (fun uu _ => data.length - (intOf uu).toNat)
                    case atStart => exact ⟨0, _, Nat.zero_le _, rfl, rfl, HT8.out.hw, Keeps.refl _ _⟩
                    case round =>
                      obtain ⟨k9, l9, hk9, hl9, rfl, hb9, hkx⟩ := hrel
                      by_cases hkd : k9 < data.length
                      · obtain ⟨h9, o9, c9, e9, -, -, -⟩ := BOwn.place hb9 (by omega)
                        simp only [Value.slice.injEq] at e9
                        obtain ⟨rfl, -, rfl⟩ := e9
                        obtain ⟨z1, z2, z3⟩ := BOwn.at hb9 k9 (by omega)
                        have Z3 := Lib.hid z3
                        clear z3
                        go_wp2
                        go_roundw
                        case rel => exact ⟨k9 + 1, l9.set k9 7, by omega, by rw [List.length_set]; exact hl9, by go_num, Z3.out 7, hkx.setCell _ _ (.inl rfl)⟩
                        case measure => simp [intOf]; omega
                      · obtain rfl : k9 = data.length := by omega
                        clear hkd hk9
                        go_wp2
                        go_roundw
                        case rel => exact ⟨i + 1, first, all, l, _, _, by omega, by go_num, by rw [HSS.out]; exact HT8.out.closed hkx⟩
                        case measure => simp [intOf]; omega
            · by_cases hbad : at' < first ∨ (l.length : Int) < at' - first
              · have HP := Lib.hid (drop_ownbad HT.out.hr HT.out.ho (by omega) fa2 hbad)
                have HRP0 := fun mm => rdrop_bad x room first at' av all (w3.drewN mm) (HT.out.hx.drewN mm) (HT.out.ha.keeps ((Keeps.refl (fun _ => False) w3).drewN mm) (fun _ _ h => h)).bat.low (by omega)
                have HRP := Lib.hid HRP0
                clear HRP0 hbad
                go_wp2_with fail
                refine HP.out.mono ?_
                rintro e w4 ⟨rfl, m4, rfl⟩
                go_wp2_with fail
                refine (HRP.out m4).mono ?_
                rintro e w5 ⟨rfl, rfl⟩
                have hT5 := (HT.out.keeps ((Keeps.refl (fun _ => False) w3).drewN m4)).more
                generalize w3.drewN m4 = w5 at *
                clear HP HRP HT HDW j0 j1 j2 j3
                have HU := Lib.hid hT5
                obtain ⟨aa9, ac9, hav, -, -⟩ := BOwn.slice HU.out.ha
                subst hav
                obtain ⟨N, hN⟩ : ∃ N, (all).length = N := ⟨_, rfl⟩
                have hNs : N ≤ 3000 := by have h3 : (all).length ≤ s + data.length := HU.out.sm; omega
                have hFl : first + (l).length = N := by have h1 := HU.out.eq; have h2 := HU.out.fl; rw [h1, List.length_drop]; omega
                have HEN := Lib.hid (ends_own HU.out.hr HU.out.ho N hFl (by omega))
                clear hT5 hFl
                go_wp2_with fail
                refine HEN.out.mono ?_
                rintro e w8 ⟨rfl, m8, rfl⟩
                have hT8 := HU.out.keeps ((Keeps.refl (fun _ => False) w5).drewN m8)
                generalize (w5).drewN m8 = W8 at *
                have p1 : W8.cell? ⟨x, 1, none⟩ = some (.slice aa9 N ac9) := by have := hT8.hx.cell 1; rw [hN] at this; exact this
                have p2 : W8.cell? ⟨x, 2, none⟩ = some (.int .i64 (first : Nat)) := hT8.hx.cell 2
                have p3 : W8.cell? ⟨q, 3, none⟩ = some (.slice da data.length dc) := hT8.hq.cell 3
                have tO := hT8.hw.bat.text
                have tD := hT8.hd.text
                have HT8 := Lib.hid hT8
                clear hT8 HEN HU hN hNs
                go_wp2
                clear p1 p2 p3 tO tD
                go_loopw [27] (fun uu wx => ∃ (k : Nat) (l' : List UInt8), k ≤ data.length ∧ l'.length = data.length ∧ uu = .int .i64 k ∧ BOwn wx w.heap.size (.slice oa data.length oc) l' ∧ Keeps (fun b => (Value.slice oa data.length oc).ownBlock = some b) W8 wx) (fun uu _ => data.length - (intOf uu).toNat)
                case atStart => exact ⟨0, _, Nat.zero_le _, rfl, rfl, HT8.out.hw, Keeps.refl _ _⟩
                case round =>
                  obtain ⟨k9, l9, hk9, hl9, rfl, hb9, hkx⟩ := hrel
                  by_cases hkd : k9 < data.length
                  · obtain ⟨h9, o9, c9, e9, -, -, -⟩ := BOwn.place hb9 (by omega)
                    simp only [Value.slice.injEq] at e9
                    obtain ⟨rfl, -, rfl⟩ := e9
                    obtain ⟨z1, z2, z3⟩ := BOwn.at hb9 k9 (by omega)
                    have Z3 := Lib.hid z3
                    clear z3
                    go_wp2
                    go_roundw
                    case rel => exact ⟨k9 + 1, l9.set k9 7, by omega, by rw [List.length_set]; exact hl9, by go_num, Z3.out 7, hkx.setCell _ _ (.inl rfl)⟩
                    case measure => simp [intOf]; omega
                  · obtain rfl : k9 = data.length := by omega
                    clear hkd hk9
                    go_wp2
                    go_roundw
                    case rel => exact ⟨i + 1, first, all, l, _, _, by omega, by go_num, by rw [HSS.out]; exact HT8.out.closed hkx⟩
                    case measure => simp [intOf]; omega
              · obtain ⟨ii, rfl⟩ : ∃ ii : Nat, at' = (first : Int) + (ii : Int) := ⟨(at' - first).toNat, by omega⟩
                have hii : ii ≤ l.length := by omega
                have HW := Lib.hid (drop_any g w.heap.size ii room first bv l w3 HT.out.hr HT.out.ho (by omega) (by omega) hii (by omega))
                clear hbad
                go_wp2_with fail
                refine HW.out.mono ?_
                rintro e w4 ⟨rfl, hk4, bv4, hr4, ho4, hp4⟩
                have hgx : g ≠ x := HT.out.hr.ne HT.out.hx (by decide)
                have hx4 := HT.out.hx.keeps hk4 (fun e => by rcases e with e | e; · exact hgx e.symm
                                                             · exact HT.out.ho.apart HT.out.hx (by decide) e)
                have ha4 := HT.out.ha.keeps hk4 (fun b hb e => by
                  rcases e with rfl | e
                  · exact HT.out.ha.apart HT.out.hr (by decide) hb
                  · exact HT.out.ap b e hb)
                have hq4 := HT.out.hq.keeps hk4 (fun e => by rcases e with e | e; · exact HT.out.hq.ne HT.out.hr (by decide) e
                                                             · exact HT.out.ho.apart HT.out.hq (by decide) e)
                have j14 : w4.cell? ⟨q, 1, none⟩ = some (.int .i64 ((first : Int) + (ii : Int))) := hq4.cell 1
                have HRW := Lib.hid (rdrop_any x ii room first av all w4 hx4 ha4.bat.low (by omega) (by omega))
                clear j0 j1 j2 j3 hq4 ha4 hx4
                go_wp2_with fail
                refine HRW.out.mono ?_
                rintro e w5 ⟨rfl, hk5, hr5⟩
                have hT5 := SendT.dropped HT.out HDW.out hk4 hr4 ho4 hp4 hk5 hr5 hii
                clear hk4 hr4 ho4 hp4 hk5 hr5 HT HDW j14 HW HRW hgx hii
                have HU := Lib.hid hT5
                obtain ⟨aa9, ac9, hav, -, -⟩ := BOwn.slice HU.out.ha
                subst hav
                obtain ⟨N, hN⟩ : ∃ N, (all).length = N := ⟨_, rfl⟩
                have hNs : N ≤ 3000 := by have h3 : (all).length ≤ s + data.length := HU.out.sm; omega
                have hFl : (first + ii) + ((l.drop ii)).length = N := by have h1 := HU.out.eq; have h2 := HU.out.fl; rw [h1, List.length_drop]; omega
                have HEN := Lib.hid (ends_own HU.out.hr HU.out.ho N hFl (by omega))
                clear hT5 hFl
                go_wp2_with fail
                refine HEN.out.mono ?_
                rintro e w8 ⟨rfl, m8, rfl⟩
                have hT8 := HU.out.keeps ((Keeps.refl (fun _ => False) w5).drewN m8)
                generalize (w5).drewN m8 = W8 at *
                have p1 : W8.cell? ⟨x, 1, none⟩ = some (.slice aa9 N ac9) := by have := hT8.hx.cell 1; rw [hN] at this; exact this
                have p2 : W8.cell? ⟨x, 2, none⟩ = some (.int .i64 ((first + ii) : Nat)) := hT8.hx.cell 2
                have p3 : W8.cell? ⟨q, 3, none⟩ = some (.slice da data.length dc) := hT8.hq.cell 3
                have tO := hT8.hw.bat.text
                have tD := hT8.hd.text
                have HT8 := Lib.hid hT8
                clear hT8 HEN HU hN hNs
                go_wp2
                clear p1 p2 p3 tO tD
                go_loopw [27] (fun uu wx => ∃ (k : Nat) (l' : List UInt8), k ≤ data.length ∧ l'.length = data.length ∧ uu = .int .i64 k ∧ BOwn wx w.heap.size (.slice oa data.length oc) l' ∧ Keeps (fun b => (Value.slice oa data.length oc).ownBlock = some b) W8 wx) (fun uu _ => data.length - (intOf uu).toNat)
                case atStart => exact ⟨0, _, Nat.zero_le _, rfl, rfl, HT8.out.hw, Keeps.refl _ _⟩
                case round =>
                  obtain ⟨k9, l9, hk9, hl9, rfl, hb9, hkx⟩ := hrel
                  by_cases hkd : k9 < data.length
                  · obtain ⟨h9, o9, c9, e9, -, -, -⟩ := BOwn.place hb9 (by omega)
                    simp only [Value.slice.injEq] at e9
                    obtain ⟨rfl, -, rfl⟩ := e9
                    obtain ⟨z1, z2, z3⟩ := BOwn.at hb9 k9 (by omega)
                    have Z3 := Lib.hid z3
                    clear z3
                    go_wp2
                    go_roundw
                    case rel => exact ⟨k9 + 1, l9.set k9 7, by omega, by rw [List.length_set]; exact hl9, by go_num, Z3.out 7, hkx.setCell _ _ (.inl rfl)⟩
                    case measure => simp [intOf]; omega
                  · obtain rfl : k9 = data.length := by omega
                    clear hkd hk9
                    go_wp2
                    go_roundw
                    case rel => exact ⟨i + 1, (first + ii), all, (l.drop ii), _, _, by omega, by go_num, by rw [HSS.out]; exact HT8.out.closed hkx⟩
                    case measure => simp [intOf]; omega
        · obtain rfl : i = L.length := by omega
          go_wp2_with (go_at_call 10; refine (awake_any _).mono ?_; rintro e w9 ⟨rfl, hk9⟩)
          go_ret
          exact ⟨rfl, HI.out.hk.trans hk9 (fun _ _ h => h)⟩

theorem lsends_row (room : Int) (rv : Value) (L : List OpV) (w : World) (h0 : (Lit.int .i64 room).wf = true) (hR : ORd w rv L) :
    Calls Try.prog 5 #[.int .i64 room, rv] w fun e w' => e = .returned (.bool true) ∧ Keeps (fun _ => False) w w' := lsends_any room rv L w hR h0
end Go.Proofs.Ytiodmhcmciohnaa
