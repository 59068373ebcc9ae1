/- RenoDoes: the walk of the law. -/
import Derived.Test.YtgabinccjmdidaaWi
namespace Go.Proofs.Ytgabinccjmdidaa
open Go.RowKit
set_option linter.unusedSimpArgs false

section
variable {P : Program} {ops : Array Oper} {Q : Exit → Act → World → Prop} {md : Region.Mode}
theorem anyT_restart {E : List Nat} {C : World → Prop} (E' : List Nat) (C' : World → Prop) {f : Nat} {listed : Array Bool} {a : Act} {w : World} (hy : ∃ e, E.contains e = true ∧ listed.getD e false = true)
    (h : anyT P md ops Q E' C' f listed a w) : anyT P md ops Q E C f listed a w := by
  obtain ⟨e, he, hl⟩ := hy
  refine T_of_any _ _ _ _ (fun hn => ?_) (any_of_T _ _ _ _ h)
  have := hn e (by simpa using he)
  rw [hl] at this
  cases this
theorem anyT_done {E : List Nat} {C : World → Prop} {listed : Array Bool} {a : Act} {w : World} (hr : Region.ready md ops listed = []) (h : Q .normal a w) : anyT P md ops Q E C 0 listed a w := ⟨hr, h⟩
end

set_option maxRecDepth 100000 in
set_option maxHeartbeats 8000000 in
theorem does_walk (mss : Int) (a : Option Addr) (len cp : Nat) (z : Nat → Int × Int) (w : World) (hz : PairsIn w a len z) :
    Calls Try.prog 4 #[.int .i64 mss, .slice a len cp] w fun e w' => e = .returned (.bool true) ∧ Keeps (fun _ => False) w w' := by
  obtain ⟨hl0, hz⟩ := hz
  by_cases hl : 300 < len
  · have hl' : (300 : Int) < (len : Int) := by omega
    go_enter Try.func4, Try.ntmps4
    go_wp2
    go_ret
    exact ⟨rfl, Keeps.refl _ _⟩
  have hl' : (len : Int) ≤ 300 := by omega
  cases hm : bad mss with
  | true =>
    go_enter Try.func4, Try.ntmps4
    go_wp2_with (first | (go_at_call 8; refine (new_bad _ _ hm).mono ?_; rintro e w' ⟨rfl, rfl⟩) | (go_at_call 14; refine (rnew_bad _ _ hm).mono ?_; rintro e w' ⟨rfl, rfl⟩) | (go_at_call 10; refine (awake_any _).mono ?_; rintro e w' ⟨rfl, hk⟩))
    go_ret
    exact ⟨rfl, hk⟩
  | false =>
    have ok0 := new_ok hm
    go_enter Try.func4, Try.ntmps4
    go_wp2_with fail
    refine (new_good _ _ hm).mono ?_
    rintro e w1 ⟨b, hb, rfl, r1, k1⟩
    go_wp2_with fail
    refine (rnew_good _ _ hm).mono ?_
    rintro e w2 ⟨b2, hb2', rfl, s1, k2⟩
    have hb2 : w.heap.size ≤ b2 := Nat.le_trans k1.size hb2'
    have hbs : b ≠ b2 := by have := r1.lt; omega
    have r2 := r1.keeps k2 (fun h => h)
    have k3 := k1.trans k2 fun _ _ h => h
    clear hm k1 k2 r1
    go_wp2
    go_loopw [9] (fun u9 wr => ∃ (k : Nat) (x : St), k ≤ len ∧ u9 = .int .i64 k ∧ RowAt wr b x.cells 46 ∧ RowAt wr b2 x.cells 38 ∧ Ok k x ∧ Keeps (fun _ => False) w wr) (fun u9 _ => len - (intOf u9).toNat)
    case atStart => exact ⟨0, _, by omega, rfl, r2, s1, ok0, k3⟩
    case round =>
      obtain ⟨k, x, hk, rfl, hr, hs, ok, hkw⟩ := hrel
      clear r2 s1 k3 ok0
      by_cases hlt : k < len
      · obtain ⟨sb, off, rfl, hsb, hcell⟩ : ∃ b off, a = some ⟨b, off, none⟩ ∧ b < w.heap.size ∧ ∀ i, i < len →
            w.cell? ⟨b, off + i * 2, none⟩ = some (.int .i64 (z i).1) ∧ w.cell? ⟨b, off + i * 2 + 1, none⟩ = some (.int .i64 (z i).2) ∧
            (z i).1 ≤ 9223372036854775807 ∧ (z i).2 ≤ 9223372036854775807 := by
          rcases hz with h | h
          · omega
          · exact h
        obtain ⟨e0, e1, q0, q1⟩ := hcell k hlt
        have e0 := hkw.cell e0 (fun h => h)
        have e1 := hkw.cell e1 (fun h => h)
        clear hcell hz
        generalize (z k).1 = c at *
        generalize (z k).2 = n at *
        have hok3 := step_ok c n ok
        generalize hy : stepS x c n = y at *
        have CON := fun (W : World) (h : RowAt W b x.cells 46) (h' : RowAt W b2 x.cells 38) => step_any b b2 k x c n W h h' hbs ok (by omega) q1
        simp only [hy] at CON
        clear hy
        have hi0 : (0 : Int) ≤ (k : Int) := by omega
        have hi1 : (k : Int) < (len : Int) := by omega
        go_wp2_with fail
        refine region_T [6] (fun w' => w'.cell? ⟨sb, off + k * 2, none⟩ = some (.int .i64 c) ∧ w'.cell? ⟨sb, off + k * 2 + 1, none⟩ = some (.int .i64 n)) (by kernel_rfl) ?_
        have hC : (fun w' : World => w'.cell? ⟨sb, off + k * 2, none⟩ = some (.int .i64 c) ∧ w'.cell? ⟨sb, off + k * 2 + 1, none⟩ = some (.int .i64 n)) wr.drew := ⟨e0, e1⟩
        clear e0 e1
        refine anyT_take0 (i := 0) (v := ?_) rfl (by kernel_rfl) (by kernel_rfl) (by kernel_rfl) (by kernel_rfl) (by kernel_rfl) (fun _ _ _ h => h) hC (.inl ⟨by rfl, fun _ _ => ?_⟩) ?_
        rotate_left 1
        · go_simp
          try with_reducible rfl
        simp only [Act.put, List.getElem_toArray, List.getElem_cons_succ, List.getElem_cons_zero, List.setIfInBounds_toArray, List.set_cons_zero, List.set_cons_succ]
        refine anyT_take0 (i := 1) (v := ?_) rfl (by kernel_rfl) (by kernel_rfl) (by kernel_rfl) (by kernel_rfl) (by kernel_rfl) (fun _ _ _ h => h) hC (.inl ⟨by rfl, fun _ _ => ?_⟩) ?_
        rotate_left 1
        · go_simp
          try with_reducible rfl
        simp only [Act.put, List.getElem_toArray, List.getElem_cons_succ, List.getElem_cons_zero, List.setIfInBounds_toArray, List.set_cons_zero, List.set_cons_succ]
        refine anyT_take0 (i := 2) (v := ?_) rfl (by kernel_rfl) (by kernel_rfl) (by kernel_rfl) (by kernel_rfl) (by kernel_rfl) (fun _ _ _ h => h) hC (.inl ⟨by rfl, fun _ _ => ?_⟩) ?_
        rotate_left 1
        · go_simp
          try with_reducible rfl
        simp only [Act.put, List.getElem_toArray, List.getElem_cons_succ, List.getElem_cons_zero, List.setIfInBounds_toArray, List.set_cons_zero, List.set_cons_succ]
        refine anyT_take0 (i := 3) (v := ?_) rfl (by kernel_rfl) (by kernel_rfl) (by kernel_rfl) (by kernel_rfl) (by kernel_rfl) (fun _ _ _ h => h) hC (.inl ⟨by rfl, fun _ _ => ?_⟩) ?_
        rotate_left 1
        · go_simp
          try with_reducible rfl
        simp only [Act.put, List.getElem_toArray, List.getElem_cons_succ, List.getElem_cons_zero, List.setIfInBounds_toArray, List.set_cons_zero, List.set_cons_succ]
        refine anyT_take0 (i := 4) (v := ?_) rfl (by kernel_rfl) (by kernel_rfl) (by kernel_rfl) (by kernel_rfl) (by kernel_rfl) (fun _ _ _ h => h) hC (.inl ⟨by rfl, fun _ _ => ?_⟩) ?_
        rotate_left 1
        · go_simp
          try with_reducible rfl
        simp only [Act.put, List.getElem_toArray, List.getElem_cons_succ, List.getElem_cons_zero, List.setIfInBounds_toArray, List.set_cons_zero, List.set_cons_succ]
        refine anyT_takeC (i := 5) (v := ?_) rfl (by kernel_rfl) (by kernel_rfl) (by kernel_rfl) (by kernel_rfl) (by kernel_rfl) (by kernel_rfl) (fun _ _ _ h => h) hC (.inl ⟨by rfl, fun w hCw => ?_⟩) ?_
        rotate_left 1
        · dsimp only at hCw
          go_simp
          try with_reducible rfl
        simp only [Act.put, List.getElem_toArray, List.getElem_cons_succ, List.getElem_cons_zero, List.setIfInBounds_toArray, List.set_cons_zero, List.set_cons_succ]
        refine anyT_force (i := 6) rfl (by kernel_rfl) (by rfl) ?_
        go_simp
        refine (CON _ hr.drew hs.drew).mono ?_
        rintro e w3 ⟨rfl, hr3, hs3, hk3⟩
        refine ⟨fun _ => ⟨hk3.cell hC.1 (by rintro (h | h) <;> dsimp only at h <;> omega), hk3.cell hC.2 (by rintro (h | h) <;> dsimp only at h <;> omega)⟩, ?_⟩
        clear hC CON
        refine anyT_restart [] (fun w' => w'.cell? ⟨b2, 1, none⟩ = some (.int .i64 y.s) ∧ w'.cell? ⟨b2, 2, none⟩ = some (.int .i64 y.e)) ⟨6, by rfl, by kernel_rfl⟩ ?_
        have hC : (fun w' : World => w'.cell? ⟨b2, 1, none⟩ = some (.int .i64 y.s) ∧ w'.cell? ⟨b2, 2, none⟩ = some (.int .i64 y.e)) w3 := ⟨(Win.open hs3).2.1, (Win.open hs3).2.2.1⟩
        refine anyT_take0 (i := 7) (v := ?_) rfl (by kernel_rfl) (by kernel_rfl) (by kernel_rfl) (by kernel_rfl) (by kernel_rfl) (fun _ _ _ h => h) hC (.inl ⟨by rfl, fun _ _ => ?_⟩) ?_
        rotate_left 1
        · go_simp
          try with_reducible rfl
        simp only [Act.put, List.getElem_toArray, List.getElem_cons_succ, List.getElem_cons_zero, List.setIfInBounds_toArray, List.set_cons_zero, List.set_cons_succ]
        refine anyT_take0 (i := 8) (v := ?_) rfl (by kernel_rfl) (by kernel_rfl) (by kernel_rfl) (by kernel_rfl) (by kernel_rfl) (fun _ _ _ h => h) hC (.inl ⟨by rfl, fun _ _ => ?_⟩) ?_
        rotate_left 1
        · go_simp
          try with_reducible rfl
        simp only [Act.put, List.getElem_toArray, List.getElem_cons_succ, List.getElem_cons_zero, List.setIfInBounds_toArray, List.set_cons_zero, List.set_cons_succ]
        refine anyT_take0 (i := 9) (v := ?_) rfl (by kernel_rfl) (by kernel_rfl) (by kernel_rfl) (by kernel_rfl) (by kernel_rfl) (fun _ _ _ h => h) hC (.inl ⟨by rfl, fun _ _ => ?_⟩) ?_
        rotate_left 1
        · go_simp
          try with_reducible rfl
        simp only [Act.put, List.getElem_toArray, List.getElem_cons_succ, List.getElem_cons_zero, List.setIfInBounds_toArray, List.set_cons_zero, List.set_cons_succ]
        refine anyT_take0 (i := 11) (v := ?_) rfl (by kernel_rfl) (by kernel_rfl) (by kernel_rfl) (by kernel_rfl) (by kernel_rfl) (fun _ _ _ h => h) hC (.inl ⟨by rfl, fun _ _ => ?_⟩) ?_
        rotate_left 1
        · go_simp
          try with_reducible rfl
        simp only [Act.put, List.getElem_toArray, List.getElem_cons_succ, List.getElem_cons_zero, List.setIfInBounds_toArray, List.set_cons_zero, List.set_cons_succ]
        refine anyT_take0 (i := 12) (v := ?_) rfl (by kernel_rfl) (by kernel_rfl) (by kernel_rfl) (by kernel_rfl) (by kernel_rfl) (fun _ _ _ h => h) hC (.inl ⟨by rfl, fun _ _ => ?_⟩) ?_
        rotate_left 1
        · go_simp
          try with_reducible rfl
        simp only [Act.put, List.getElem_toArray, List.getElem_cons_succ, List.getElem_cons_zero, List.setIfInBounds_toArray, List.set_cons_zero, List.set_cons_succ]
        refine anyT_take0 (i := 13) (v := ?_) rfl (by kernel_rfl) (by kernel_rfl) (by kernel_rfl) (by kernel_rfl) (by kernel_rfl) (fun _ _ _ h => h) hC (.inl ⟨by rfl, fun _ _ => ?_⟩) ?_
        rotate_left 1
        · go_simp
          try with_reducible rfl
        simp only [Act.put, List.getElem_toArray, List.getElem_cons_succ, List.getElem_cons_zero, List.setIfInBounds_toArray, List.set_cons_zero, List.set_cons_succ]
        refine anyT_takeC (i := 14) (v := ?_) rfl (by kernel_rfl) (by kernel_rfl) (by kernel_rfl) (by kernel_rfl) (by kernel_rfl) (by kernel_rfl) (fun _ _ _ h => h) hC (.inl ⟨by rfl, fun w hCw => ?_⟩) ?_
        rotate_left 1
        · dsimp only at hCw
          go_simp
          try with_reducible rfl
        simp only [Act.put, List.getElem_toArray, List.getElem_cons_succ, List.getElem_cons_zero, List.setIfInBounds_toArray, List.set_cons_zero, List.set_cons_succ]
        refine anyT_force (i := 10) rfl (by kernel_rfl) (by rfl) ?_
        go_simp
        refine (size_any b y _ hr3).mono ?_
        rintro e w' ⟨rfl, rfl⟩
        refine ⟨fun _ => hC, ?_⟩
        refine anyT_take0 (i := 15) (v := ?_) rfl (by kernel_rfl) (by kernel_rfl) (by kernel_rfl) (by kernel_rfl) (by kernel_rfl) (fun _ _ _ h => h) hC (.inl ⟨by rfl, fun _ _ => ?_⟩) ?_
        rotate_left 1
        · go_simp
          try with_reducible rfl
        simp only [Act.put, List.getElem_toArray, List.getElem_cons_succ, List.getElem_cons_zero, List.setIfInBounds_toArray, List.set_cons_zero, List.set_cons_succ]
        refine anyT_take0 (i := 16) (v := ?_) rfl (by kernel_rfl) (by kernel_rfl) (by kernel_rfl) (by kernel_rfl) (by kernel_rfl) (fun _ _ _ h => h) hC (.inl ⟨by rfl, fun _ _ => ?_⟩) ?_
        rotate_left 1
        · go_simp
          try with_reducible rfl
        simp only [Act.put, List.getElem_toArray, List.getElem_cons_succ, List.getElem_cons_zero, List.setIfInBounds_toArray, List.set_cons_zero, List.set_cons_succ]
        refine anyT_take0 (i := 17) (v := ?_) rfl (by kernel_rfl) (by kernel_rfl) (by kernel_rfl) (by kernel_rfl) (by kernel_rfl) (fun _ _ _ h => h) hC (.inl ⟨by rfl, fun _ _ => ?_⟩) ?_
        rotate_left 1
        · go_simp
          try with_reducible rfl
        simp only [Act.put, List.getElem_toArray, List.getElem_cons_succ, List.getElem_cons_zero, List.setIfInBounds_toArray, List.set_cons_zero, List.set_cons_succ]
        refine anyT_take0 (i := 18) (v := ?_) rfl (by kernel_rfl) (by kernel_rfl) (by kernel_rfl) (by kernel_rfl) (by kernel_rfl) (fun _ _ _ h => h) hC (.inl ⟨by rfl, fun _ _ => ?_⟩) ?_
        rotate_left 1
        · go_simp
          try with_reducible rfl
        simp only [Act.put, List.getElem_toArray, List.getElem_cons_succ, List.getElem_cons_zero, List.setIfInBounds_toArray, List.set_cons_zero, List.set_cons_succ]
        refine anyT_take0 (i := 20) (v := ?_) rfl (by kernel_rfl) (by kernel_rfl) (by kernel_rfl) (by kernel_rfl) (by kernel_rfl) (fun _ _ _ h => h) hC (.inl ⟨by rfl, fun _ _ => ?_⟩) ?_
        rotate_left 1
        · go_simp
          try with_reducible rfl
        simp only [Act.put, List.getElem_toArray, List.getElem_cons_succ, List.getElem_cons_zero, List.setIfInBounds_toArray, List.set_cons_zero, List.set_cons_succ]
        refine anyT_take0 (i := 21) (v := ?_) rfl (by kernel_rfl) (by kernel_rfl) (by kernel_rfl) (by kernel_rfl) (by kernel_rfl) (fun _ _ _ h => h) hC (.inl ⟨by rfl, fun _ _ => ?_⟩) ?_
        rotate_left 1
        · go_simp
          try with_reducible rfl
        simp only [Act.put, List.getElem_toArray, List.getElem_cons_succ, List.getElem_cons_zero, List.setIfInBounds_toArray, List.set_cons_zero, List.set_cons_succ]
        refine anyT_take0 (i := 22) (v := ?_) rfl (by kernel_rfl) (by kernel_rfl) (by kernel_rfl) (by kernel_rfl) (by kernel_rfl) (fun _ _ _ h => h) hC (.inl ⟨by rfl, fun _ _ => ?_⟩) ?_
        rotate_left 1
        · go_simp
          try with_reducible rfl
        simp only [Act.put, List.getElem_toArray, List.getElem_cons_succ, List.getElem_cons_zero, List.setIfInBounds_toArray, List.set_cons_zero, List.set_cons_succ]
        refine anyT_takeC (i := 23) (v := ?_) rfl (by kernel_rfl) (by kernel_rfl) (by kernel_rfl) (by kernel_rfl) (by kernel_rfl) (by kernel_rfl) (fun _ _ _ h => h) hC (.inl ⟨by rfl, fun w hCw => ?_⟩) ?_
        rotate_left 1
        · dsimp only at hCw
          go_simp
          try with_reducible rfl
        simp only [Act.put, List.getElem_toArray, List.getElem_cons_succ, List.getElem_cons_zero, List.setIfInBounds_toArray, List.set_cons_zero, List.set_cons_succ]
        refine anyT_force (i := 19) rfl (by kernel_rfl) (by rfl) ?_
        go_simp
        refine (edge_any b y _ hr3).mono ?_
        rintro e w' ⟨rfl, rfl⟩
        refine ⟨fun _ => hC, ?_⟩
        refine anyT_take0 (i := 24) (v := ?_) rfl (by kernel_rfl) (by kernel_rfl) (by kernel_rfl) (by kernel_rfl) (by kernel_rfl) (fun _ _ _ h => h) hC (.inl ⟨by rfl, fun _ _ => ?_⟩) ?_
        rotate_left 1
        · go_simp
          try with_reducible rfl
        simp only [Act.put, List.getElem_toArray, List.getElem_cons_succ, List.getElem_cons_zero, List.setIfInBounds_toArray, List.set_cons_zero, List.set_cons_succ]
        refine anyT_take0 (i := 25) (v := ?_) rfl (by kernel_rfl) (by kernel_rfl) (by kernel_rfl) (by kernel_rfl) (by kernel_rfl) (fun _ _ _ h => h) hC (.inl ⟨by rfl, fun _ _ => ?_⟩) ?_
        rotate_left 1
        · go_simp
          try with_reducible rfl
        simp only [Act.put, List.getElem_toArray, List.getElem_cons_succ, List.getElem_cons_zero, List.setIfInBounds_toArray, List.set_cons_zero, List.set_cons_succ]
        refine anyT_done (by kernel_rfl) ?_
        clear hC
        go_wp2
        go_roundw
        case rel => exact ⟨k + 1, y, by omega, by go_num, hr3, hs3, hok3, hkw.drew.trans hk3 (by rintro i hi (h | h) <;> omega)⟩
        case measure => simp [intOf]; omega
      · go_wp2_with fail
        refine region_T [] (fun w' => RowAt w' b x.cells 46 ∧ w'.cell? ⟨b2, 1, none⟩ = some (.int .i64 x.s)) (by kernel_rfl) ?_
        refine anyT_force (i := 0) rfl (by kernel_rfl) (by rfl) ?_
        go_simp
        refine (awake_any _).mono ?_
        rintro e w3 ⟨rfl, hk3⟩
        have hr3 := hr.drew.keeps hk3 (fun h => h)
        have hs3 := hs.drew.keeps hk3 (fun h => h)
        have hC : (fun w' : World => RowAt w' b x.cells 46 ∧ w'.cell? ⟨b2, 1, none⟩ = some (.int .i64 x.s)) w3 := ⟨hr3, (Win.open hs3).2.1⟩
        refine ⟨fun _ => hC, ?_⟩
        refine anyT_take0 (i := 1) (v := ?_) rfl (by kernel_rfl) (by kernel_rfl) (by kernel_rfl) (by kernel_rfl) (by kernel_rfl) (fun _ _ _ h => h) hC (.inl ⟨by rfl, fun _ _ => ?_⟩) ?_
        rotate_left 1
        · go_simp
          try with_reducible rfl
        simp only [Act.put, List.getElem_toArray, List.getElem_cons_succ, List.getElem_cons_zero, List.setIfInBounds_toArray, List.set_cons_zero, List.set_cons_succ]
        refine anyT_take0 (i := 2) (v := ?_) rfl (by kernel_rfl) (by kernel_rfl) (by kernel_rfl) (by kernel_rfl) (by kernel_rfl) (fun _ _ _ h => h) hC (.inl ⟨by rfl, fun _ _ => ?_⟩) ?_
        rotate_left 1
        · go_simp
          try with_reducible rfl
        simp only [Act.put, List.getElem_toArray, List.getElem_cons_succ, List.getElem_cons_zero, List.setIfInBounds_toArray, List.set_cons_zero, List.set_cons_succ]
        refine anyT_take0 (i := 4) (v := ?_) rfl (by kernel_rfl) (by kernel_rfl) (by kernel_rfl) (by kernel_rfl) (by kernel_rfl) (fun _ _ _ h => h) hC (.inl ⟨by rfl, fun _ _ => ?_⟩) ?_
        rotate_left 1
        · go_simp
          try with_reducible rfl
        simp only [Act.put, List.getElem_toArray, List.getElem_cons_succ, List.getElem_cons_zero, List.setIfInBounds_toArray, List.set_cons_zero, List.set_cons_succ]
        refine anyT_take0 (i := 5) (v := ?_) rfl (by kernel_rfl) (by kernel_rfl) (by kernel_rfl) (by kernel_rfl) (by kernel_rfl) (fun _ _ _ h => h) hC (.inl ⟨by rfl, fun _ _ => ?_⟩) ?_
        rotate_left 1
        · go_simp
          try with_reducible rfl
        simp only [Act.put, List.getElem_toArray, List.getElem_cons_succ, List.getElem_cons_zero, List.setIfInBounds_toArray, List.set_cons_zero, List.set_cons_succ]
        refine anyT_take0 (i := 6) (v := ?_) rfl (by kernel_rfl) (by kernel_rfl) (by kernel_rfl) (by kernel_rfl) (by kernel_rfl) (fun _ _ _ h => h) hC (.inl ⟨by rfl, fun _ _ => ?_⟩) ?_
        rotate_left 1
        · go_simp
          try with_reducible rfl
        simp only [Act.put, List.getElem_toArray, List.getElem_cons_succ, List.getElem_cons_zero, List.setIfInBounds_toArray, List.set_cons_zero, List.set_cons_succ]
        refine anyT_takeC (i := 7) (v := ?_) rfl (by kernel_rfl) (by kernel_rfl) (by kernel_rfl) (by kernel_rfl) (by kernel_rfl) (by kernel_rfl) (fun _ _ _ h => h) hC (.inl ⟨by rfl, fun w hCw => ?_⟩) ?_
        rotate_left 1
        · dsimp only at hCw
          go_simp
          try with_reducible rfl
        simp only [Act.put, List.getElem_toArray, List.getElem_cons_succ, List.getElem_cons_zero, List.setIfInBounds_toArray, List.set_cons_zero, List.set_cons_succ]
        refine anyT_force (i := 3) rfl (by kernel_rfl) (by rfl) ?_
        go_simp
        refine (size_any b x _ hr3).mono ?_
        rintro e w' ⟨rfl, rfl⟩
        refine ⟨fun _ => hC, ?_⟩
        refine anyT_take0 (i := 8) (v := ?_) rfl (by kernel_rfl) (by kernel_rfl) (by kernel_rfl) (by kernel_rfl) (by kernel_rfl) (fun _ _ _ h => h) hC (.inl ⟨by rfl, fun _ _ => ?_⟩) ?_
        rotate_left 1
        · go_simp
          try with_reducible rfl
        simp only [Act.put, List.getElem_toArray, List.getElem_cons_succ, List.getElem_cons_zero, List.setIfInBounds_toArray, List.set_cons_zero, List.set_cons_succ]
        refine anyT_take0 (i := 9) (v := ?_) rfl (by kernel_rfl) (by kernel_rfl) (by kernel_rfl) (by kernel_rfl) (by kernel_rfl) (fun _ _ _ h => h) hC (.inl ⟨by rfl, fun _ _ => ?_⟩) ?_
        rotate_left 1
        · go_simp
          try with_reducible rfl
        simp only [Act.put, List.getElem_toArray, List.getElem_cons_succ, List.getElem_cons_zero, List.setIfInBounds_toArray, List.set_cons_zero, List.set_cons_succ]
        refine anyT_take0 (i := 10) (v := ?_) rfl (by kernel_rfl) (by kernel_rfl) (by kernel_rfl) (by kernel_rfl) (by kernel_rfl) (fun _ _ _ h => h) hC (.inl ⟨by rfl, fun _ _ => ?_⟩) ?_
        rotate_left 1
        · go_simp
          try with_reducible rfl
        simp only [Act.put, List.getElem_toArray, List.getElem_cons_succ, List.getElem_cons_zero, List.setIfInBounds_toArray, List.set_cons_zero, List.set_cons_succ]
        refine anyT_done (by kernel_rfl) ?_
        clear hC
        go_wp2
        go_ret
        exact ⟨rfl, hkw.drew.trans hk3 fun _ _ h => h⟩

theorem does_row (mss : Int) (a : Option Addr) (len cp : Nat) (z : Nat → Int × Int) (w : World) (_ : (Lit.int .i64 mss).wf = true) (hz : PairsIn w a len z) :
    Calls Try.prog 4 #[.int .i64 mss, .slice a len cp] w fun e w' => e = .returned (.bool true) ∧ Below w.heap.size w w' :=
  (does_walk mss a len cp z w hz).mono fun _ _ h => ⟨h.1, h.2.below _ (Nat.le_refl _) fun _ _ h => h⟩

end Go.Proofs.Ytgabinccjmdidaa
