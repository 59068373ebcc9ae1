/- Walks: one step of a script on both windows; RenoDoes' walk. -/
import Derived.Test.YtgabinccjmdidaaWg
namespace Go.Proofs.Ytgabinccjmdidaa
open Go.RowKit
set_option linter.unusedSimpArgs false

def stepS (x : St) (c n : Int) : St := if c = 0 then ackS x n else if c = 1 then dupS x n else if c = 2 then lostS x n else resS x n
theorem step_ok {k : Nat} {x : St} (c n : Int) (h : Ok k x) : Ok (k + 1) (stepS x c n) := by
  unfold stepS
  split
  · exact ack_ok n h
  · split
    · exact dup_ok n h
    · split
      · exact lost_ok n h
      · exact res_ok n h
/-- A step's end: it answers true; both windows' new cells; all else as it was. -/
def StepPost (b b2 : Nat) (x : St) (w : World) (e : Ending) (w' : World) : Prop :=
  e = .returned (.bool true) ∧ RowAt w' b x.cells 46 ∧ RowAt w' b2 x.cells 38 ∧ Keeps (fun i => i = b ∨ i = b2) w w'

set_option maxRecDepth 100000 in
set_option maxHeartbeats 4000000 in
theorem step_any (b b2 k : Nat) (x : St) (c n : Int) (w : World) (hr : RowAt w b x.cells 46) (hs : RowAt w b2 x.cells 38) (hbs : b ≠ b2) (ok : Ok k x) (hk : k ≤ 1000000) (q1 : n ≤ 9223372036854775807) :
    Calls Try.prog 15 #[.pointer (some ⟨b, 0, none⟩), .pointer (some ⟨b2, 0, none⟩), .agg #[.int .i64 c, .int .i64 n]] w (StepPost b b2 (stepS x c n) w) := by
  have hbl := hr.lt
  have hbl2 := hs.lt
  have hr2 := hr.alloc (.cells #[.int .i64 c, .int .i64 n] 36)
  have hs2 := hs.alloc (.cells #[.int .i64 c, .int .i64 n] 36)
  have ho := RowAt.new w #[.int .i64 c, .int .i64 n] 36
  have hne : w.heap.size ≠ b := by omega
  have hne2 : w.heap.size ≠ b2 := by omega
  by_cases hc0 : c = 0
  · subst hc0
    rw [show stepS x 0 n = ackS x n by simp [stepS]]
    go_enter Try.func15, Try.ntmps15
    go_wp2_with fail
    refine region_T [9] (fun w' => w'.cell? ⟨w.heap.size, 1, none⟩ = some (.int .i64 n)) (by kernel_rfl) ?_
    have hC : (fun w' : World => w'.cell? ⟨w.heap.size, 1, none⟩ = some (.int .i64 n)) ((w.alloc (.cells #[.int .i64 0, .int .i64 n] 36)).drew) := ho.two.2
    refine anyT_take0 (i := 0) (v := ?_) rfl (by kernel_rfl) (by kernel_rfl) (by kernel_rfl) (by kernel_rfl) (by kernel_rfl) (fun _ _ _ h => h) hC (.inl ⟨by rfl, fun _ _ => ?_⟩) ?_
    rotate_left 1
    · go_simp
      try with_reducible rfl
    simp only [Act.put, List.getElem_toArray, List.getElem_cons_succ, List.getElem_cons_zero, List.setIfInBounds_toArray, List.set_cons_zero, List.set_cons_succ]
    refine anyT_take0 (i := 1) (v := ?_) rfl (by kernel_rfl) (by kernel_rfl) (by kernel_rfl) (by kernel_rfl) (by kernel_rfl) (fun _ _ _ h => h) hC (.inl ⟨by rfl, fun _ _ => ?_⟩) ?_
    rotate_left 1
    · go_simp
      try with_reducible rfl
    simp only [Act.put, List.getElem_toArray, List.getElem_cons_succ, List.getElem_cons_zero, List.setIfInBounds_toArray, List.set_cons_zero, List.set_cons_succ]
    refine anyT_takeC (i := 2) (v := ?_) rfl (by kernel_rfl) (by kernel_rfl) (by kernel_rfl) (by kernel_rfl) (by kernel_rfl) (by kernel_rfl) (fun _ _ _ h => h) hC (.inl ⟨by rfl, fun w hCw => ?_⟩) ?_
    rotate_left 1
    · dsimp only at hCw
      go_simp
      try with_reducible rfl
    simp only [Act.put, List.getElem_toArray, List.getElem_cons_succ, List.getElem_cons_zero, List.setIfInBounds_toArray, List.set_cons_zero, List.set_cons_succ]
    refine anyT_take0 (i := 4) (v := ?_) rfl (by kernel_rfl) (by kernel_rfl) (by kernel_rfl) (by kernel_rfl) (by kernel_rfl) (fun _ _ _ h => h) hC (.inl ⟨by rfl, fun _ _ => ?_⟩) ?_
    rotate_left 1
    · go_simp
      try with_reducible rfl
    simp only [Act.put, List.getElem_toArray, List.getElem_cons_succ, List.getElem_cons_zero, List.setIfInBounds_toArray, List.set_cons_zero, List.set_cons_succ]
    refine anyT_take0 (i := 5) (v := ?_) rfl (by kernel_rfl) (by kernel_rfl) (by kernel_rfl) (by kernel_rfl) (by kernel_rfl) (fun _ _ _ h => h) hC (.inl ⟨by rfl, fun _ _ => ?_⟩) ?_
    rotate_left 1
    · go_simp
      try with_reducible rfl
    simp only [Act.put, List.getElem_toArray, List.getElem_cons_succ, List.getElem_cons_zero, List.setIfInBounds_toArray, List.set_cons_zero, List.set_cons_succ]
    refine anyT_takeC (i := 6) (v := ?_) rfl (by kernel_rfl) (by kernel_rfl) (by kernel_rfl) (by kernel_rfl) (by kernel_rfl) (by kernel_rfl) (fun _ _ _ h => h) hC (.inl ⟨by rfl, fun w hCw => ?_⟩) ?_
    rotate_left 1
    · dsimp only at hCw
      go_simp
      try with_reducible rfl
    simp only [Act.put, List.getElem_toArray, List.getElem_cons_succ, List.getElem_cons_zero, List.setIfInBounds_toArray, List.set_cons_zero, List.set_cons_succ]
    refine anyT_force (i := 3) rfl (by kernel_rfl) (by rfl) ?_
    go_simp
    refine (ack_any b k x n _ hr2.drew ok hk).mono ?_
    rintro e w2 ⟨rfl, hr3, hk3⟩
    have hC2 : w2.cell? ⟨w.heap.size, 1, none⟩ = some (.int .i64 n) := hk3.cell hC hne
    have hs3 := RowAt.keeps hs2.drew hk3 (Ne.symm hbs)
    clear hC
    have hC : (fun w' : World => w'.cell? ⟨w.heap.size, 1, none⟩ = some (.int .i64 n)) w2 := hC2
    clear hC2
    refine ⟨fun _ => hC, ?_⟩
    refine anyT_force (i := 7) rfl (by kernel_rfl) (by rfl) ?_
    go_simp
    refine (rack_any b2 k x n _ hs3 ok hk).mono ?_
    rintro e w3 ⟨rfl, hs4, hk4⟩
    have hC2 : w3.cell? ⟨w.heap.size, 1, none⟩ = some (.int .i64 n) := hk4.cell hC hne2
    have hr4 := hr3.keeps hk4 hbs
    clear hC
    have hC : (fun w' : World => w'.cell? ⟨w.heap.size, 1, none⟩ = some (.int .i64 n)) w3 := hC2
    clear hC2
    refine ⟨fun _ => hC, ?_⟩
    refine anyT_take0 (i := 8) (v := ?_) rfl (by kernel_rfl) (by kernel_rfl) (by kernel_rfl) (by kernel_rfl) (by kernel_rfl) (fun _ _ _ h => h) hC (.inl ⟨by rfl, fun _ _ => ?_⟩) ?_
    rotate_left 1
    · go_simp
      try with_reducible rfl
    simp only [Act.put, List.getElem_toArray, List.getElem_cons_succ, List.getElem_cons_zero, List.setIfInBounds_toArray, List.set_cons_zero, List.set_cons_succ]
    refine anyT_tail (k := 9) (by rfl) (by kernel_rfl) (by simp) rfl rfl (by kernel_rfl) ?_
    go_wp2
    go_ret
    exact ⟨rfl, hr4, hs4, ((((Keeps.refl _ w).alloc _).drew).trans hk3 fun i _ h => Or.inl h).trans hk4 fun i _ h => Or.inr h⟩
  by_cases hc1 : c = 1
  · subst hc1
    rw [show stepS x 1 n = dupS x n by simp [stepS]]
    clear hc0
    go_enter Try.func15, Try.ntmps15
    go_wp2_with fail
    refine (dup_any b k x n _ hr2 ok hk q1).mono ?_
    rintro e w2 ⟨rfl, hr3, hk3⟩
    have hs3 := hs2.keeps hk3 (Ne.symm hbs)
    obtain ⟨o0, o1⟩ := (ho.keeps hk3 hne).two
    go_wp2_with fail
    refine (rdup_any b2 k x n _ hs3 ok hk q1).mono ?_
    rintro e w3 ⟨rfl, hs4, hk4⟩
    have hr4 := hr3.keeps hk4 hbs
    go_wp2
    go_ret
    exact ⟨rfl, hr4, hs4, (((Keeps.refl _ w).alloc _).trans hk3 fun i _ h => Or.inl h).trans hk4 fun i _ h => Or.inr h⟩
  by_cases hc2 : c = 2
  · subst hc2
    rw [show stepS x 2 n = lostS x n by simp [stepS]]
    clear hc0 hc1
    go_enter Try.func15, Try.ntmps15
    go_wp2_with fail
    refine region_T [9] (fun w' => w'.cell? ⟨w.heap.size, 1, none⟩ = some (.int .i64 n)) (by kernel_rfl) ?_
    have hC : (fun w' : World => w'.cell? ⟨w.heap.size, 1, none⟩ = some (.int .i64 n)) ((w.alloc (.cells #[.int .i64 2, .int .i64 n] 36)).drew) := ho.two.2
    refine anyT_take0 (i := 0) (v := ?_) rfl (by kernel_rfl) (by kernel_rfl) (by kernel_rfl) (by kernel_rfl) (by kernel_rfl) (fun _ _ _ h => h) hC (.inl ⟨by rfl, fun _ _ => ?_⟩) ?_
    rotate_left 1
    · go_simp
      try with_reducible rfl
    simp only [Act.put, List.getElem_toArray, List.getElem_cons_succ, List.getElem_cons_zero, List.setIfInBounds_toArray, List.set_cons_zero, List.set_cons_succ]
    refine anyT_take0 (i := 1) (v := ?_) rfl (by kernel_rfl) (by kernel_rfl) (by kernel_rfl) (by kernel_rfl) (by kernel_rfl) (fun _ _ _ h => h) hC (.inl ⟨by rfl, fun _ _ => ?_⟩) ?_
    rotate_left 1
    · go_simp
      try with_reducible rfl
    simp only [Act.put, List.getElem_toArray, List.getElem_cons_succ, List.getElem_cons_zero, List.setIfInBounds_toArray, List.set_cons_zero, List.set_cons_succ]
    refine anyT_takeC (i := 2) (v := ?_) rfl (by kernel_rfl) (by kernel_rfl) (by kernel_rfl) (by kernel_rfl) (by kernel_rfl) (by kernel_rfl) (fun _ _ _ h => h) hC (.inl ⟨by rfl, fun w hCw => ?_⟩) ?_
    rotate_left 1
    · dsimp only at hCw
      go_simp
      try with_reducible rfl
    simp only [Act.put, List.getElem_toArray, List.getElem_cons_succ, List.getElem_cons_zero, List.setIfInBounds_toArray, List.set_cons_zero, List.set_cons_succ]
    refine anyT_take0 (i := 4) (v := ?_) rfl (by kernel_rfl) (by kernel_rfl) (by kernel_rfl) (by kernel_rfl) (by kernel_rfl) (fun _ _ _ h => h) hC (.inl ⟨by rfl, fun _ _ => ?_⟩) ?_
    rotate_left 1
    · go_simp
      try with_reducible rfl
    simp only [Act.put, List.getElem_toArray, List.getElem_cons_succ, List.getElem_cons_zero, List.setIfInBounds_toArray, List.set_cons_zero, List.set_cons_succ]
    refine anyT_take0 (i := 5) (v := ?_) rfl (by kernel_rfl) (by kernel_rfl) (by kernel_rfl) (by kernel_rfl) (by kernel_rfl) (fun _ _ _ h => h) hC (.inl ⟨by rfl, fun _ _ => ?_⟩) ?_
    rotate_left 1
    · go_simp
      try with_reducible rfl
    simp only [Act.put, List.getElem_toArray, List.getElem_cons_succ, List.getElem_cons_zero, List.setIfInBounds_toArray, List.set_cons_zero, List.set_cons_succ]
    refine anyT_takeC (i := 6) (v := ?_) rfl (by kernel_rfl) (by kernel_rfl) (by kernel_rfl) (by kernel_rfl) (by kernel_rfl) (by kernel_rfl) (fun _ _ _ h => h) hC (.inl ⟨by rfl, fun w hCw => ?_⟩) ?_
    rotate_left 1
    · dsimp only at hCw
      go_simp
      try with_reducible rfl
    simp only [Act.put, List.getElem_toArray, List.getElem_cons_succ, List.getElem_cons_zero, List.setIfInBounds_toArray, List.set_cons_zero, List.set_cons_succ]
    refine anyT_force (i := 3) rfl (by kernel_rfl) (by rfl) ?_
    go_simp
    refine (lost_any b k x n _ hr2.drew ok q1).mono ?_
    rintro e w2 ⟨rfl, hr3, hk3⟩
    have hC2 : w2.cell? ⟨w.heap.size, 1, none⟩ = some (.int .i64 n) := hk3.cell hC hne
    have hs3 := RowAt.keeps hs2.drew hk3 (Ne.symm hbs)
    clear hC
    have hC : (fun w' : World => w'.cell? ⟨w.heap.size, 1, none⟩ = some (.int .i64 n)) w2 := hC2
    clear hC2
    refine ⟨fun _ => hC, ?_⟩
    refine anyT_force (i := 7) rfl (by kernel_rfl) (by rfl) ?_
    go_simp
    refine (rlost_any b2 k x n _ hs3 ok q1).mono ?_
    rintro e w3 ⟨rfl, hs4, hk4⟩
    have hC2 : w3.cell? ⟨w.heap.size, 1, none⟩ = some (.int .i64 n) := hk4.cell hC hne2
    have hr4 := hr3.keeps hk4 hbs
    clear hC
    have hC : (fun w' : World => w'.cell? ⟨w.heap.size, 1, none⟩ = some (.int .i64 n)) w3 := hC2
    clear hC2
    refine ⟨fun _ => hC, ?_⟩
    refine anyT_take0 (i := 8) (v := ?_) rfl (by kernel_rfl) (by kernel_rfl) (by kernel_rfl) (by kernel_rfl) (by kernel_rfl) (fun _ _ _ h => h) hC (.inl ⟨by rfl, fun _ _ => ?_⟩) ?_
    rotate_left 1
    · go_simp
      try with_reducible rfl
    simp only [Act.put, List.getElem_toArray, List.getElem_cons_succ, List.getElem_cons_zero, List.setIfInBounds_toArray, List.set_cons_zero, List.set_cons_succ]
    refine anyT_tail (k := 9) (by rfl) (by kernel_rfl) (by simp) rfl rfl (by kernel_rfl) ?_
    go_wp2
    go_ret
    exact ⟨rfl, hr4, hs4, ((((Keeps.refl _ w).alloc _).drew).trans hk3 fun i _ h => Or.inl h).trans hk4 fun i _ h => Or.inr h⟩
  rw [show stepS x c n = resS x n by simp [stepS, hc0, hc1, hc2]]
  have hd0 : (c == 0) = false := by simp; exact hc0
  have hd1 : (c == 1) = false := by simp; exact hc1
  have hd2 : (c == 2) = false := by simp; exact hc2
  clear hc0 hc1 hc2
  go_enter Try.func15, Try.ntmps15
  go_wp2_with fail
  refine region_T [9] (fun w' => w'.cell? ⟨w.heap.size, 1, none⟩ = some (.int .i64 n)) (by kernel_rfl) ?_
  have hC : (fun w' : World => w'.cell? ⟨w.heap.size, 1, none⟩ = some (.int .i64 n)) ((w.alloc (.cells #[.int .i64 c, .int .i64 n] 36)).drew) := ho.two.2
  refine anyT_take0 (i := 0) (v := ?_) rfl (by kernel_rfl) (by kernel_rfl) (by kernel_rfl) (by kernel_rfl) (by kernel_rfl) (fun _ _ _ h => h) hC (.inl ⟨by rfl, fun _ _ => ?_⟩) ?_
  rotate_left 1
  · go_simp
    try with_reducible rfl
  simp only [Act.put, List.getElem_toArray, List.getElem_cons_succ, List.getElem_cons_zero, List.setIfInBounds_toArray, List.set_cons_zero, List.set_cons_succ]
  refine anyT_take0 (i := 1) (v := ?_) rfl (by kernel_rfl) (by kernel_rfl) (by kernel_rfl) (by kernel_rfl) (by kernel_rfl) (fun _ _ _ h => h) hC (.inl ⟨by rfl, fun _ _ => ?_⟩) ?_
  rotate_left 1
  · go_simp
    try with_reducible rfl
  simp only [Act.put, List.getElem_toArray, List.getElem_cons_succ, List.getElem_cons_zero, List.setIfInBounds_toArray, List.set_cons_zero, List.set_cons_succ]
  refine anyT_takeC (i := 2) (v := ?_) rfl (by kernel_rfl) (by kernel_rfl) (by kernel_rfl) (by kernel_rfl) (by kernel_rfl) (by kernel_rfl) (fun _ _ _ h => h) hC (.inl ⟨by rfl, fun w hCw => ?_⟩) ?_
  rotate_left 1
  · dsimp only at hCw
    go_simp
    try with_reducible rfl
  simp only [Act.put, List.getElem_toArray, List.getElem_cons_succ, List.getElem_cons_zero, List.setIfInBounds_toArray, List.set_cons_zero, List.set_cons_succ]
  refine anyT_take0 (i := 4) (v := ?_) rfl (by kernel_rfl) (by kernel_rfl) (by kernel_rfl) (by kernel_rfl) (by kernel_rfl) (fun _ _ _ h => h) hC (.inl ⟨by rfl, fun _ _ => ?_⟩) ?_
  rotate_left 1
  · go_simp
    try with_reducible rfl
  simp only [Act.put, List.getElem_toArray, List.getElem_cons_succ, List.getElem_cons_zero, List.setIfInBounds_toArray, List.set_cons_zero, List.set_cons_succ]
  refine anyT_take0 (i := 5) (v := ?_) rfl (by kernel_rfl) (by kernel_rfl) (by kernel_rfl) (by kernel_rfl) (by kernel_rfl) (fun _ _ _ h => h) hC (.inl ⟨by rfl, fun _ _ => ?_⟩) ?_
  rotate_left 1
  · go_simp
    try with_reducible rfl
  simp only [Act.put, List.getElem_toArray, List.getElem_cons_succ, List.getElem_cons_zero, List.setIfInBounds_toArray, List.set_cons_zero, List.set_cons_succ]
  refine anyT_takeC (i := 6) (v := ?_) rfl (by kernel_rfl) (by kernel_rfl) (by kernel_rfl) (by kernel_rfl) (by kernel_rfl) (by kernel_rfl) (fun _ _ _ h => h) hC (.inl ⟨by rfl, fun w hCw => ?_⟩) ?_
  rotate_left 1
  · dsimp only at hCw
    go_simp
    try with_reducible rfl
  simp only [Act.put, List.getElem_toArray, List.getElem_cons_succ, List.getElem_cons_zero, List.setIfInBounds_toArray, List.set_cons_zero, List.set_cons_succ]
  refine anyT_force (i := 3) rfl (by kernel_rfl) (by rfl) ?_
  go_simp
  refine (res_any b k x n _ hr2.drew ok).mono ?_
  rintro e w2 ⟨rfl, hr3, hk3⟩
  have hC2 : w2.cell? ⟨w.heap.size, 1, none⟩ = some (.int .i64 n) := hk3.cell hC hne
  have hs3 := RowAt.keeps hs2.drew hk3 (Ne.symm hbs)
  clear hC
  have hC : (fun w' : World => w'.cell? ⟨w.heap.size, 1, none⟩ = some (.int .i64 n)) w2 := hC2
  clear hC2
  refine ⟨fun _ => hC, ?_⟩
  refine anyT_force (i := 7) rfl (by kernel_rfl) (by rfl) ?_
  go_simp
  refine (rres_any b2 k x n _ hs3 ok).mono ?_
  rintro e w3 ⟨rfl, hs4, hk4⟩
  have hC2 : w3.cell? ⟨w.heap.size, 1, none⟩ = some (.int .i64 n) := hk4.cell hC hne2
  have hr4 := hr3.keeps hk4 hbs
  clear hC
  have hC : (fun w' : World => w'.cell? ⟨w.heap.size, 1, none⟩ = some (.int .i64 n)) w3 := hC2
  clear hC2
  refine ⟨fun _ => hC, ?_⟩
  refine anyT_take0 (i := 8) (v := ?_) rfl (by kernel_rfl) (by kernel_rfl) (by kernel_rfl) (by kernel_rfl) (by kernel_rfl) (fun _ _ _ h => h) hC (.inl ⟨by rfl, fun _ _ => ?_⟩) ?_
  rotate_left 1
  · go_simp
    try with_reducible rfl
  simp only [Act.put, List.getElem_toArray, List.getElem_cons_succ, List.getElem_cons_zero, List.setIfInBounds_toArray, List.set_cons_zero, List.set_cons_succ]
  refine anyT_tail (k := 9) (by rfl) (by kernel_rfl) (by simp) rfl rfl (by kernel_rfl) ?_
  go_wp2
  go_ret
  exact ⟨rfl, hr4, hs4, ((((Keeps.refl _ w).alloc _).drew).trans hk3 fun i _ h => Or.inl h).trans hk4 fun i _ h => Or.inr h⟩

end Go.Proofs.Ytgabinccjmdidaa
