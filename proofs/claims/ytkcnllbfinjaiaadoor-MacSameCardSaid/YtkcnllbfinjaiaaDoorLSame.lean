/- The law MacSame. -/
import Derived.Test.YtkcnllbfinjaiaaDoorAwake
import Derived.Test.YtkcnllbfinjaiaaDoorAny
namespace Go.Proofs.YtkcnllbfinjaiaaDoor
open Go.RowKit

theorem wpList_append_run_g {P : Program} (w : World) {ops : Array Oper} {rest : List Oper} {o : Oper} {a : Act} {Q : Exit → Act → World → Prop} (s x : Operand) (t tn : TypeId)
    (ho : o.op = .call { callee := .builtin .append, args := #[s, x], argTypes := #[t, tn] }) (vs vx : Value) (hs : a.eval s = vs) (hx : a.eval x = vx)
    (v' : Value) (w' : World) (hr : (Builtin.append_ #[t, tn] o.type #[vs, vx]).run P w = .ok v' w') (hw : Region.wanted o (yielded ops a.tmps) = true) (h : wpList P ops Q rest (a.put o.dst v') w') : wpList P ops Q (o :: rest) a w := by
  unfold wpList
  rw [if_pos hw]
  exact .inl (Lib.wp_append_run w s x t tn ho vs vx hs hx v' w' hr h)

theorem ne_longer (l : List UInt8) (c : UInt8) : decide (l = l ++ [c]) = false := by
  rw [decide_eq_false_iff_not]
  intro h
  have := congrArg List.length h
  simp at this
theorem ne_longer' (l : List UInt8) (c : UInt8) : decide (l ++ [c] = l) = false := by
  rw [decide_eq_false_iff_not]
  intro h
  have := congrArg List.length h
  simp at this


set_option maxRecDepth 100000 in
set_option maxHeartbeats 2000000 in
theorem lsame_any (v : Value) (l : List UInt8) (i : Int) (c : UInt8) (w : World) (h : BAt w (· < w.heap.size) v l) (hT : Table w) :
    Calls Tryd.prog 3 #[v, .int .i64 i, .int .u8 (c.toNat : Int)] w fun e w' => e = .returned (.bool true) ∧ Keeps (fun _ => False) w w' := by
  obtain ⟨a, cp, rfl, hc, hm⟩ := h.slice
  simp only [maxLen] at hm
  have hB0 : 0 < w.heap.size := World.block_lt_of_cell? w _ (hT 0 (by omega))
  go_enter Tryd.func3, Tryd.ntmps3
  by_cases hlen : 3000 < l.length
  · have hlen' : (3000 : Int) < (l.length : Int) := by omega
    go_wp2
    go_ret
    exact ⟨rfl, Keeps.refl _ _⟩
  · have hlen' : (l.length : Int) ≤ 3000 := by omega
    go_wp2_with fail
    refine (both_any _ [l] _ (BBAt.one (T := 22) h).low (by simp; omega)).mono ?_
    rintro e w1 ⟨v1, rfl, ho1, hk1⟩
    rw [show [l].flatten = l by simp] at ho1
    have hkA : Keeps (fun _ => False) w w1 := ((Keeps.refl _ w).alloc _).trans hk1 (fun _ _ h => h)
    go_wp2_with fail
    refine (same_any _ _ l l _ _ _ (h.keeps hkA (fun _ _ h => h)) ho1.bat).mono ?_
    rintro e w2 ⟨rfl, rfl⟩
    rw [decide_eq_true (rfl : l = l)]
    go_wp2_with fail
    refine (both_any _ [l] _ (BBAt.one (T := 22) (h.keeps hkA (fun _ _ h => h))).low (by simp; omega)).mono ?_
    rintro e w2 ⟨v2, rfl, ho2, hk2⟩
    rw [show [l].flatten = l by simp] at ho2
    have hkB : Keeps (fun _ => False) w w2 := (hkA.alloc _).trans hk2 (fun _ _ h => h)
    obtain ⟨v3, w3, hrun3, ho3, hk3, hp3⟩ := run_append_bytes (ty := 22) (ho2.keeps ((Keeps.refl (fun _ => False) w2).alloc (.cells #[.int .u8 (c.toNat : Int)] 5)) (fun _ _ h => h)) (BAt.one w2 _ c 5 rfl) (by rw [List.length_singleton]; omega) (by rw [size_alloc]; have := (hk2.alloc (.cells #[.int .u8 (c.toNat : Int)] 5)).size; rw [size_alloc] at this; exact this)
    have hkC : Keeps (fun _ => False) w w3 := (hkB.alloc _).from hk3 (fun b hb => by have := (ho2.block b hb).1; rw [size_alloc] at this; have := hkA.size; omega)
    have HR3 := Lib.hid hrun3
    clear hrun3
    go_wp2_with (at_builtin; refine wpList_append_run_g _ _ _ _ _ rfl _ _ rfl rfl _ _ HR3.out (by rfl) ?_)
    refine (same_any _ _ l (l ++ [c]) _ _ _ (h.keeps hkC (fun _ _ h => h)) ho3.bat).mono ?_
    rintro e w4 ⟨rfl, rfl⟩
    rw [ne_longer]
    have hv1 : ∀ b, v1.ownBlock = some b → w.heap.size ≤ b ∧ b < w1.heap.size := fun b hb => ⟨by have := (ho1.block b hb).1; rw [size_alloc] at this; omega, (ho1.block b hb).2⟩
    have hv2 : ∀ b, v2.ownBlock = some b → w1.heap.size < b := fun b hb => by have := (ho2.block b hb).1; rw [size_alloc] at this; omega
    have ho13 := (((ho1.keeps ((Keeps.refl (fun _ => False) w1).alloc (.cells #[.slice a l.length cp] 22)) (fun _ _ h => h)).keeps hk2 (fun _ _ h => h)).keeps ((Keeps.refl (fun _ => False) w2).alloc (.cells #[.int .u8 (c.toNat : Int)] 5)) (fun _ _ h => h)).keeps hk3 (fun b hb e => by have := hv2 b e; have := (hv1 b hb).2; omega)
    have hs13 : w1.heap.size ≤ w3.heap.size := by have := hk2.size; have := hk3.size; rw [size_alloc] at *; omega
    clear ho3 hp3 HR3 hk3 ho2 hk2 ho1 hk1
    go_wp2_with fail
    refine (both_any _ [l] _ (BBAt.one (T := 22) (h.keeps hkC (fun _ _ h => h))).low (by simp; omega)).mono ?_
    rintro e w4 ⟨v4, rfl, ho4, hk4⟩
    rw [show [l].flatten = l by simp] at ho4
    have hkD : Keeps (fun _ => False) w w4 := (hkC.alloc _).trans hk4 (fun _ _ h => h)
    obtain ⟨v5, w5, hrun5, ho5, hk5, hp5⟩ := run_append_bytes (ty := 22) (ho4.keeps ((Keeps.refl (fun _ => False) w4).alloc (.cells #[.int .u8 (c.toNat : Int)] 5)) (fun _ _ h => h)) (BAt.one w4 _ c 5 rfl) (by rw [List.length_singleton]; omega) (by rw [size_alloc]; have := (hk4.alloc (.cells #[.int .u8 (c.toNat : Int)] 5)).size; rw [size_alloc] at this; exact this)
    have hkE : Keeps (fun _ => False) w w5 := (hkD.alloc _).from hk5 (fun b hb => by have := (ho4.block b hb).1; rw [size_alloc] at this; have := hkC.size; omega)
    have HR5 := Lib.hid hrun5
    clear hrun5
    go_wp2_with (at_builtin; refine wpList_append_run_g _ _ _ _ _ rfl _ _ rfl rfl _ _ HR5.out (by rfl) ?_)
    refine (same_any _ _ (l ++ [c]) l _ _ _ ho5.bat (h.keeps hkE (fun _ _ h => h))).mono ?_
    rintro e w6 ⟨rfl, rfl⟩
    rw [ne_longer']
    have hv4 : ∀ b, v4.ownBlock = some b → w3.heap.size < b := fun b hb => by have := (ho4.block b hb).1; rw [size_alloc] at this; omega
    have ho15 := (((ho13.keeps ((Keeps.refl (fun _ => False) w3).alloc (.cells #[.slice a l.length cp] 22)) (fun _ _ h => h)).keeps hk4 (fun _ _ h => h)).keeps ((Keeps.refl (fun _ => False) w4).alloc (.cells #[.int .u8 (c.toNat : Int)] 5)) (fun _ _ h => h)).keeps hk5 (fun b hb e => by have := hv4 b e; have := (hv1 b hb).2; omega)
    clear ho5 hp5 HR5 hk5 ho4 hk4 ho13 hkA hkB hkC hkD
    by_cases hneg : i < 0
    · go_wp2_with (go_at_call 9; refine (awake_any _ (hT.keeps hkE)).mono ?_; rintro e w6 ⟨rfl, hk6⟩)
      go_ret
      exact ⟨rfl, hkE.trans hk6 (fun _ _ h => h)⟩
    · by_cases hbig : (l.length : Int) ≤ i
      · have hneg' : 0 ≤ i := by omega
        go_wp2_with (go_at_call 9; refine (awake_any _ (hT.keeps hkE)).mono ?_; rintro e w6 ⟨rfl, hk6⟩)
        go_ret
        exact ⟨rfl, hkE.trans hk6 (fun _ _ h => h)⟩
      · obtain ⟨k, rfl⟩ : ∃ k : Nat, i = (k : Int) := ⟨i.toNat, by omega⟩
        have hk : k < l.length := by omega
        have hneg' : (0 : Int) ≤ k := by omega
        have hk' : (k : Int) < (l.length : Int) := by omega
        obtain ⟨g, off, c7, rfl, hc7, hm7, hg7⟩ := ho15.place (by omega)
        obtain ⟨t1, t2, t3⟩ := ho15.at k hk
        simp only [maxLen] at hm7
        have ho8 := t3 c
        clear t3
        obtain ⟨b0, o0, c0, e0, -, -, hb0, hcell⟩ := h.get (by omega)
        simp only [Value.slice.injEq] at e0
        obtain ⟨rfl, -, rfl⟩ := e0
        have hx0 := hcell k hk
        have hk6 : Keeps (fun _ => False) w (w5.setCell ⟨g, off + k, none⟩ (.int .u8 (c.toNat : Int))) := hkE.setCell _ _ (.inr (by have := hg7; rw [size_alloc] at this; show w.heap.size ≤ g; omega))
        clear hcell hv1 hv2 hv4 hs13 ho15 hbig hneg
        obtain ⟨X, hX⟩ : ∃ X, l[k] = X := ⟨_, rfl⟩
        rw [hX] at hx0 t1
        by_cases hceq : X = c
        · have e1 : decide (l = l.set k c) = true := by
            rw [decide_eq_true_iff, ← hceq, ← hX, List.set_getElem_self]
          have e1' : decide (l.set k c = l) = true := by
            rw [decide_eq_true_iff, ← hceq, ← hX, List.set_getElem_self]
          have e2 : ((X.toNat : Int) == (c.toNat : Int)) = true := by rw [hceq]; simp
          clear hceq hX
          go_wp2_with fail
          refine region_T [] (fun w' => w'.cell? ⟨b0, o0 + k, none⟩ = some (.int .u8 (X.toNat : Int))) (by kernel_rfl) ?_
          refine anyT_force (i := 0) rfl (by kernel_rfl) (by rfl) ?_
          go_simp
          refine (awake_any _ (hT.keeps hk6.drew)).mono ?_
          rintro e w7 ⟨rfl, hk7⟩
          have hk8 := hk6.drew.trans hk7 (fun _ _ h => h)
          have ho9 := (ho8.keeps ((Keeps.refl (fun _ => False) _).drew) (fun _ _ h => h)).keeps hk7 (fun _ _ h => h)
          have hC : (fun w' : World => w'.cell? ⟨b0, o0 + k, none⟩ = some (.int .u8 (X.toNat : Int))) w7 := hk8.cell hx0 (fun h => h)
          refine ⟨fun _ => hC, ?_⟩
          clear hk7 hk6 ho8 t1 t2 hx0 hkE
          refine anyT_take0 (i := 1) (v := ?_) rfl (by kernel_rfl) (by kernel_rfl) (by kernel_rfl) (by kernel_rfl) (by kernel_rfl) (fun _ _ _ h => h) hC (.inl ⟨by rfl, fun _ _ => ?_⟩) ?_
          rotate_left 1
          · go_simp
            try with_reducible rfl
          simp only [Act.put, List.getElem_toArray, List.getElem_cons_succ, List.getElem_cons_zero, List.setIfInBounds_toArray, List.set_cons_zero, List.set_cons_succ]
          refine anyT_take0 (i := 2) (v := ?_) rfl (by kernel_rfl) (by kernel_rfl) (by kernel_rfl) (by kernel_rfl) (by kernel_rfl) (fun _ _ _ h => h) hC (.inl ⟨by rfl, fun _ _ => ?_⟩) ?_
          rotate_left 1
          · go_simp
            try with_reducible rfl
          simp only [Act.put, List.getElem_toArray, List.getElem_cons_succ, List.getElem_cons_zero, List.setIfInBounds_toArray, List.set_cons_zero, List.set_cons_succ]
          refine anyT_take0 (i := 3) (v := ?_) rfl (by kernel_rfl) (by kernel_rfl) (by kernel_rfl) (by kernel_rfl) (by kernel_rfl) (fun _ _ _ h => h) hC (.inl ⟨by rfl, fun _ _ => ?_⟩) ?_
          rotate_left 1
          · go_simp
            try with_reducible rfl
          simp only [Act.put, List.getElem_toArray, List.getElem_cons_succ, List.getElem_cons_zero, List.setIfInBounds_toArray, List.set_cons_zero, List.set_cons_succ]
          refine anyT_take0 (i := 5) (v := ?_) rfl (by kernel_rfl) (by kernel_rfl) (by kernel_rfl) (by kernel_rfl) (by kernel_rfl) (fun _ _ _ h => h) hC (.inl ⟨by rfl, fun _ _ => ?_⟩) ?_
          rotate_left 1
          · go_simp
            try with_reducible rfl
          simp only [Act.put, List.getElem_toArray, List.getElem_cons_succ, List.getElem_cons_zero, List.setIfInBounds_toArray, List.set_cons_zero, List.set_cons_succ]
          refine anyT_take0 (i := 6) (v := ?_) rfl (by kernel_rfl) (by kernel_rfl) (by kernel_rfl) (by kernel_rfl) (by kernel_rfl) (fun _ _ _ h => h) hC (.inl ⟨by rfl, fun _ _ => ?_⟩) ?_
          rotate_left 1
          · go_simp
            try with_reducible rfl
          simp only [Act.put, List.getElem_toArray, List.getElem_cons_succ, List.getElem_cons_zero, List.setIfInBounds_toArray, List.set_cons_zero, List.set_cons_succ]
          refine anyT_take0 (i := 9) (v := ?_) rfl (by kernel_rfl) (by kernel_rfl) (by kernel_rfl) (by kernel_rfl) (by kernel_rfl) (fun _ _ _ h => h) hC (.inl ⟨by rfl, fun _ _ => ?_⟩) ?_
          rotate_left 1
          · go_simp
            try with_reducible rfl
          simp only [Act.put, List.getElem_toArray, List.getElem_cons_succ, List.getElem_cons_zero, List.setIfInBounds_toArray, List.set_cons_zero, List.set_cons_succ]
          refine anyT_take0 (i := 7) (v := ?_) rfl (by kernel_rfl) (by kernel_rfl) (by kernel_rfl) (by kernel_rfl) (by kernel_rfl) (fun _ _ _ h => h) hC (.inl ⟨by rfl, fun _ _ => ?_⟩) ?_
          rotate_left 1
          · go_simp
            try with_reducible rfl
          simp only [Act.put, List.getElem_toArray, List.getElem_cons_succ, List.getElem_cons_zero, List.setIfInBounds_toArray, List.set_cons_zero, List.set_cons_succ]
          refine anyT_takeC (i := 8) (v := ?_) rfl (by kernel_rfl) (by kernel_rfl) (by kernel_rfl) (by kernel_rfl) (by kernel_rfl) (by kernel_rfl) (fun _ _ _ h => h) hC (.inl ⟨by rfl, fun w hCw => ?_⟩) ?_
          rotate_left 1
          · dsimp only at hCw
            go_simp
            try with_reducible rfl
          simp only [Act.put, List.getElem_toArray, List.getElem_cons_succ, List.getElem_cons_zero, List.setIfInBounds_toArray, List.set_cons_zero, List.set_cons_succ]
          refine anyT_take0 (i := 10) (v := ?_) rfl (by kernel_rfl) (by kernel_rfl) (by kernel_rfl) (by kernel_rfl) (by kernel_rfl) (fun _ _ _ h => h) hC (.inl ⟨by rfl, fun _ _ => ?_⟩) ?_
          rotate_left 1
          · go_simp
            try with_reducible rfl
          simp only [Act.put, List.getElem_toArray, List.getElem_cons_succ, List.getElem_cons_zero, List.setIfInBounds_toArray, List.set_cons_zero, List.set_cons_succ]
          refine anyT_force (i := 4) rfl (by kernel_rfl) (by rfl) ?_
          go_simp
          refine (same_any _ _ l (l.set k c) _ _ _ (h.keeps hk8 (fun _ _ h => h)) ho9.bat).mono ?_
          rintro e w' ⟨rfl, rfl⟩
          refine ⟨fun _ => hC, ?_⟩
          rw [e1]
          refine anyT_take0 (i := 11) (v := ?_) rfl (by kernel_rfl) (by kernel_rfl) (by kernel_rfl) (by kernel_rfl) (by kernel_rfl) (fun _ _ _ h => h) hC (.inl ⟨by rfl, fun _ _ => ?_⟩) ?_
          rotate_left 1
          · go_simp
            try with_reducible rfl
          simp only [Act.put, List.getElem_toArray, List.getElem_cons_succ, List.getElem_cons_zero, List.setIfInBounds_toArray, List.set_cons_zero, List.set_cons_succ]
          refine anyT_take0 (i := 12) (v := ?_) rfl (by kernel_rfl) (by kernel_rfl) (by kernel_rfl) (by kernel_rfl) (by kernel_rfl) (fun _ _ _ h => h) hC (.inl ⟨by rfl, fun _ _ => ?_⟩) ?_
          rotate_left 1
          · go_simp
            try with_reducible rfl
          simp only [Act.put, List.getElem_toArray, List.getElem_cons_succ, List.getElem_cons_zero, List.setIfInBounds_toArray, List.set_cons_zero, List.set_cons_succ]
          refine anyT_take0 (i := 13) (v := ?_) rfl (by kernel_rfl) (by kernel_rfl) (by kernel_rfl) (by kernel_rfl) (by kernel_rfl) (fun _ _ _ h => h) hC (.inl ⟨by rfl, fun _ _ => ?_⟩) ?_
          rotate_left 1
          · go_simp
            try with_reducible rfl
          simp only [Act.put, List.getElem_toArray, List.getElem_cons_succ, List.getElem_cons_zero, List.setIfInBounds_toArray, List.set_cons_zero, List.set_cons_succ]
          refine anyT_take0 (i := 14) (v := ?_) rfl (by kernel_rfl) (by kernel_rfl) (by kernel_rfl) (by kernel_rfl) (by kernel_rfl) (fun _ _ _ h => h) hC (.inl ⟨by rfl, fun _ _ => ?_⟩) ?_
          rotate_left 1
          · go_simp
            try with_reducible rfl
          simp only [Act.put, List.getElem_toArray, List.getElem_cons_succ, List.getElem_cons_zero, List.setIfInBounds_toArray, List.set_cons_zero, List.set_cons_succ]
          refine anyT_take0 (i := 15) (v := ?_) rfl (by kernel_rfl) (by kernel_rfl) (by kernel_rfl) (by kernel_rfl) (by kernel_rfl) (fun _ _ _ h => h) hC (.inl ⟨by rfl, fun _ _ => ?_⟩) ?_
          rotate_left 1
          · go_simp
            try with_reducible rfl
          simp only [Act.put, List.getElem_toArray, List.getElem_cons_succ, List.getElem_cons_zero, List.setIfInBounds_toArray, List.set_cons_zero, List.set_cons_succ]
          refine anyT_take0 (i := 17) (v := ?_) rfl (by kernel_rfl) (by kernel_rfl) (by kernel_rfl) (by kernel_rfl) (by kernel_rfl) (fun _ _ _ h => h) hC (.inl ⟨by rfl, fun _ _ => ?_⟩) ?_
          rotate_left 1
          · go_simp
            try with_reducible rfl
          simp only [Act.put, List.getElem_toArray, List.getElem_cons_succ, List.getElem_cons_zero, List.setIfInBounds_toArray, List.set_cons_zero, List.set_cons_succ]
          refine anyT_take0 (i := 18) (v := ?_) rfl (by kernel_rfl) (by kernel_rfl) (by kernel_rfl) (by kernel_rfl) (by kernel_rfl) (fun _ _ _ h => h) hC (.inl ⟨by rfl, fun _ _ => ?_⟩) ?_
          rotate_left 1
          · go_simp
            try with_reducible rfl
          simp only [Act.put, List.getElem_toArray, List.getElem_cons_succ, List.getElem_cons_zero, List.setIfInBounds_toArray, List.set_cons_zero, List.set_cons_succ]
          refine anyT_take0 (i := 21) (v := ?_) rfl (by kernel_rfl) (by kernel_rfl) (by kernel_rfl) (by kernel_rfl) (by kernel_rfl) (fun _ _ _ h => h) hC (.inl ⟨by rfl, fun _ _ => ?_⟩) ?_
          rotate_left 1
          · go_simp
            try with_reducible rfl
          simp only [Act.put, List.getElem_toArray, List.getElem_cons_succ, List.getElem_cons_zero, List.setIfInBounds_toArray, List.set_cons_zero, List.set_cons_succ]
          refine anyT_take0 (i := 19) (v := ?_) rfl (by kernel_rfl) (by kernel_rfl) (by kernel_rfl) (by kernel_rfl) (by kernel_rfl) (fun _ _ _ h => h) hC (.inl ⟨by rfl, fun _ _ => ?_⟩) ?_
          rotate_left 1
          · go_simp
            try with_reducible rfl
          simp only [Act.put, List.getElem_toArray, List.getElem_cons_succ, List.getElem_cons_zero, List.setIfInBounds_toArray, List.set_cons_zero, List.set_cons_succ]
          refine anyT_takeC (i := 20) (v := ?_) rfl (by kernel_rfl) (by kernel_rfl) (by kernel_rfl) (by kernel_rfl) (by kernel_rfl) (by kernel_rfl) (fun _ _ _ h => h) hC (.inl ⟨by rfl, fun w hCw => ?_⟩) ?_
          rotate_left 1
          · dsimp only at hCw
            go_simp
            try with_reducible rfl
          simp only [Act.put, List.getElem_toArray, List.getElem_cons_succ, List.getElem_cons_zero, List.setIfInBounds_toArray, List.set_cons_zero, List.set_cons_succ]
          refine anyT_take0 (i := 22) (v := ?_) rfl (by kernel_rfl) (by kernel_rfl) (by kernel_rfl) (by kernel_rfl) (by kernel_rfl) (fun _ _ _ h => h) hC (.inl ⟨by rfl, fun _ _ => ?_⟩) ?_
          rotate_left 1
          · go_simp
            try with_reducible rfl
          simp only [Act.put, List.getElem_toArray, List.getElem_cons_succ, List.getElem_cons_zero, List.setIfInBounds_toArray, List.set_cons_zero, List.set_cons_succ]
          refine anyT_force (i := 16) rfl (by kernel_rfl) (by rfl) ?_
          go_simp
          refine (same_any _ _ (l.set k c) l _ _ _ ho9.bat (h.keeps hk8 (fun _ _ h => h))).mono ?_
          rintro e w' ⟨rfl, rfl⟩
          refine ⟨fun _ => hC, ?_⟩
          rw [e1']
          refine anyT_take0 (i := 23) (v := ?_) rfl (by kernel_rfl) (by kernel_rfl) (by kernel_rfl) (by kernel_rfl) (by kernel_rfl) (fun _ _ _ h => h) hC (.inl ⟨by rfl, fun _ _ => ?_⟩) ?_
          rotate_left 1
          · go_simp
            try with_reducible rfl
          simp only [Act.put, List.getElem_toArray, List.getElem_cons_succ, List.getElem_cons_zero, List.setIfInBounds_toArray, List.set_cons_zero, List.set_cons_succ]
          refine anyT_take0 (i := 24) (v := ?_) rfl (by kernel_rfl) (by kernel_rfl) (by kernel_rfl) (by kernel_rfl) (by kernel_rfl) (fun _ _ _ h => h) hC (.inl ⟨by rfl, fun _ _ => ?_⟩) ?_
          rotate_left 1
          · go_simp
            try with_reducible rfl
          simp only [Act.put, List.getElem_toArray, List.getElem_cons_succ, List.getElem_cons_zero, List.setIfInBounds_toArray, List.set_cons_zero, List.set_cons_succ]
          refine anyT_take0 (i := 25) (v := ?_) rfl (by kernel_rfl) (by kernel_rfl) (by kernel_rfl) (by kernel_rfl) (by kernel_rfl) (fun _ _ _ h => h) hC (.inl ⟨by rfl, fun _ _ => ?_⟩) ?_
          rotate_left 1
          · go_simp
            try with_reducible rfl
          simp only [Act.put, List.getElem_toArray, List.getElem_cons_succ, List.getElem_cons_zero, List.setIfInBounds_toArray, List.set_cons_zero, List.set_cons_succ]
          refine (show anyT _ _ _ _ _ _ 0 _ _ _ from ⟨by kernel_rfl, ?_⟩)
          go_wp2
          go_ret
          exact ⟨rfl, hk8⟩
        · have e1 : decide (l = l.set k c) = false := by
            rw [decide_eq_false_iff_not]
            intro e
            have := congrArg (fun m : List UInt8 => m[k]?) e
            simp [hk] at this
            exact hceq (hX.symm.trans this)
          have e1' : decide (l.set k c = l) = false := by
            rw [decide_eq_false_iff_not]
            intro e
            have := congrArg (fun m : List UInt8 => m[k]?) e
            simp [hk] at this
            exact hceq (hX.symm.trans this.symm)
          have e2 : ((X.toNat : Int) == (c.toNat : Int)) = false := by
            rw [beq_eq_false_iff_ne]
            intro e
            exact hceq (UInt8.toNat_inj.1 (by omega))
          clear hceq hX
          go_wp2_with fail
          refine region_T [] (fun w' => w'.cell? ⟨b0, o0 + k, none⟩ = some (.int .u8 (X.toNat : Int))) (by kernel_rfl) ?_
          refine anyT_force (i := 0) rfl (by kernel_rfl) (by rfl) ?_
          go_simp
          refine (awake_any _ (hT.keeps hk6.drew)).mono ?_
          rintro e w7 ⟨rfl, hk7⟩
          have hk8 := hk6.drew.trans hk7 (fun _ _ h => h)
          have ho9 := (ho8.keeps ((Keeps.refl (fun _ => False) _).drew) (fun _ _ h => h)).keeps hk7 (fun _ _ h => h)
          have hC : (fun w' : World => w'.cell? ⟨b0, o0 + k, none⟩ = some (.int .u8 (X.toNat : Int))) w7 := hk8.cell hx0 (fun h => h)
          refine ⟨fun _ => hC, ?_⟩
          clear hk7 hk6 ho8 t1 t2 hx0 hkE
          refine anyT_take0 (i := 1) (v := ?_) rfl (by kernel_rfl) (by kernel_rfl) (by kernel_rfl) (by kernel_rfl) (by kernel_rfl) (fun _ _ _ h => h) hC (.inl ⟨by rfl, fun _ _ => ?_⟩) ?_
          rotate_left 1
          · go_simp
            try with_reducible rfl
          simp only [Act.put, List.getElem_toArray, List.getElem_cons_succ, List.getElem_cons_zero, List.setIfInBounds_toArray, List.set_cons_zero, List.set_cons_succ]
          refine anyT_take0 (i := 2) (v := ?_) rfl (by kernel_rfl) (by kernel_rfl) (by kernel_rfl) (by kernel_rfl) (by kernel_rfl) (fun _ _ _ h => h) hC (.inl ⟨by rfl, fun _ _ => ?_⟩) ?_
          rotate_left 1
          · go_simp
            try with_reducible rfl
          simp only [Act.put, List.getElem_toArray, List.getElem_cons_succ, List.getElem_cons_zero, List.setIfInBounds_toArray, List.set_cons_zero, List.set_cons_succ]
          refine anyT_take0 (i := 3) (v := ?_) rfl (by kernel_rfl) (by kernel_rfl) (by kernel_rfl) (by kernel_rfl) (by kernel_rfl) (fun _ _ _ h => h) hC (.inl ⟨by rfl, fun _ _ => ?_⟩) ?_
          rotate_left 1
          · go_simp
            try with_reducible rfl
          simp only [Act.put, List.getElem_toArray, List.getElem_cons_succ, List.getElem_cons_zero, List.setIfInBounds_toArray, List.set_cons_zero, List.set_cons_succ]
          refine anyT_take0 (i := 5) (v := ?_) rfl (by kernel_rfl) (by kernel_rfl) (by kernel_rfl) (by kernel_rfl) (by kernel_rfl) (fun _ _ _ h => h) hC (.inl ⟨by rfl, fun _ _ => ?_⟩) ?_
          rotate_left 1
          · go_simp
            try with_reducible rfl
          simp only [Act.put, List.getElem_toArray, List.getElem_cons_succ, List.getElem_cons_zero, List.setIfInBounds_toArray, List.set_cons_zero, List.set_cons_succ]
          refine anyT_take0 (i := 6) (v := ?_) rfl (by kernel_rfl) (by kernel_rfl) (by kernel_rfl) (by kernel_rfl) (by kernel_rfl) (fun _ _ _ h => h) hC (.inl ⟨by rfl, fun _ _ => ?_⟩) ?_
          rotate_left 1
          · go_simp
            try with_reducible rfl
          simp only [Act.put, List.getElem_toArray, List.getElem_cons_succ, List.getElem_cons_zero, List.setIfInBounds_toArray, List.set_cons_zero, List.set_cons_succ]
          refine anyT_take0 (i := 9) (v := ?_) rfl (by kernel_rfl) (by kernel_rfl) (by kernel_rfl) (by kernel_rfl) (by kernel_rfl) (fun _ _ _ h => h) hC (.inl ⟨by rfl, fun _ _ => ?_⟩) ?_
          rotate_left 1
          · go_simp
            try with_reducible rfl
          simp only [Act.put, List.getElem_toArray, List.getElem_cons_succ, List.getElem_cons_zero, List.setIfInBounds_toArray, List.set_cons_zero, List.set_cons_succ]
          refine anyT_take0 (i := 7) (v := ?_) rfl (by kernel_rfl) (by kernel_rfl) (by kernel_rfl) (by kernel_rfl) (by kernel_rfl) (fun _ _ _ h => h) hC (.inl ⟨by rfl, fun _ _ => ?_⟩) ?_
          rotate_left 1
          · go_simp
            try with_reducible rfl
          simp only [Act.put, List.getElem_toArray, List.getElem_cons_succ, List.getElem_cons_zero, List.setIfInBounds_toArray, List.set_cons_zero, List.set_cons_succ]
          refine anyT_takeC (i := 8) (v := ?_) rfl (by kernel_rfl) (by kernel_rfl) (by kernel_rfl) (by kernel_rfl) (by kernel_rfl) (by kernel_rfl) (fun _ _ _ h => h) hC (.inl ⟨by rfl, fun w hCw => ?_⟩) ?_
          rotate_left 1
          · dsimp only at hCw
            go_simp
            try with_reducible rfl
          simp only [Act.put, List.getElem_toArray, List.getElem_cons_succ, List.getElem_cons_zero, List.setIfInBounds_toArray, List.set_cons_zero, List.set_cons_succ]
          refine anyT_take0 (i := 10) (v := ?_) rfl (by kernel_rfl) (by kernel_rfl) (by kernel_rfl) (by kernel_rfl) (by kernel_rfl) (fun _ _ _ h => h) hC (.inl ⟨by rfl, fun _ _ => ?_⟩) ?_
          rotate_left 1
          · go_simp
            try with_reducible rfl
          simp only [Act.put, List.getElem_toArray, List.getElem_cons_succ, List.getElem_cons_zero, List.setIfInBounds_toArray, List.set_cons_zero, List.set_cons_succ]
          refine anyT_force (i := 4) rfl (by kernel_rfl) (by rfl) ?_
          go_simp
          refine (same_any _ _ l (l.set k c) _ _ _ (h.keeps hk8 (fun _ _ h => h)) ho9.bat).mono ?_
          rintro e w' ⟨rfl, rfl⟩
          refine ⟨fun _ => hC, ?_⟩
          rw [e1]
          refine anyT_take0 (i := 11) (v := ?_) rfl (by kernel_rfl) (by kernel_rfl) (by kernel_rfl) (by kernel_rfl) (by kernel_rfl) (fun _ _ _ h => h) hC (.inl ⟨by rfl, fun _ _ => ?_⟩) ?_
          rotate_left 1
          · go_simp
            try with_reducible rfl
          simp only [Act.put, List.getElem_toArray, List.getElem_cons_succ, List.getElem_cons_zero, List.setIfInBounds_toArray, List.set_cons_zero, List.set_cons_succ]
          refine anyT_take0 (i := 12) (v := ?_) rfl (by kernel_rfl) (by kernel_rfl) (by kernel_rfl) (by kernel_rfl) (by kernel_rfl) (fun _ _ _ h => h) hC (.inl ⟨by rfl, fun _ _ => ?_⟩) ?_
          rotate_left 1
          · go_simp
            try with_reducible rfl
          simp only [Act.put, List.getElem_toArray, List.getElem_cons_succ, List.getElem_cons_zero, List.setIfInBounds_toArray, List.set_cons_zero, List.set_cons_succ]
          refine anyT_take0 (i := 13) (v := ?_) rfl (by kernel_rfl) (by kernel_rfl) (by kernel_rfl) (by kernel_rfl) (by kernel_rfl) (fun _ _ _ h => h) hC (.inl ⟨by rfl, fun _ _ => ?_⟩) ?_
          rotate_left 1
          · go_simp
            try with_reducible rfl
          simp only [Act.put, List.getElem_toArray, List.getElem_cons_succ, List.getElem_cons_zero, List.setIfInBounds_toArray, List.set_cons_zero, List.set_cons_succ]
          refine anyT_take0 (i := 14) (v := ?_) rfl (by kernel_rfl) (by kernel_rfl) (by kernel_rfl) (by kernel_rfl) (by kernel_rfl) (fun _ _ _ h => h) hC (.inl ⟨by rfl, fun _ _ => ?_⟩) ?_
          rotate_left 1
          · go_simp
            try with_reducible rfl
          simp only [Act.put, List.getElem_toArray, List.getElem_cons_succ, List.getElem_cons_zero, List.setIfInBounds_toArray, List.set_cons_zero, List.set_cons_succ]
          refine anyT_take0 (i := 15) (v := ?_) rfl (by kernel_rfl) (by kernel_rfl) (by kernel_rfl) (by kernel_rfl) (by kernel_rfl) (fun _ _ _ h => h) hC (.inl ⟨by rfl, fun _ _ => ?_⟩) ?_
          rotate_left 1
          · go_simp
            try with_reducible rfl
          simp only [Act.put, List.getElem_toArray, List.getElem_cons_succ, List.getElem_cons_zero, List.setIfInBounds_toArray, List.set_cons_zero, List.set_cons_succ]
          refine anyT_take0 (i := 17) (v := ?_) rfl (by kernel_rfl) (by kernel_rfl) (by kernel_rfl) (by kernel_rfl) (by kernel_rfl) (fun _ _ _ h => h) hC (.inl ⟨by rfl, fun _ _ => ?_⟩) ?_
          rotate_left 1
          · go_simp
            try with_reducible rfl
          simp only [Act.put, List.getElem_toArray, List.getElem_cons_succ, List.getElem_cons_zero, List.setIfInBounds_toArray, List.set_cons_zero, List.set_cons_succ]
          refine anyT_take0 (i := 18) (v := ?_) rfl (by kernel_rfl) (by kernel_rfl) (by kernel_rfl) (by kernel_rfl) (by kernel_rfl) (fun _ _ _ h => h) hC (.inl ⟨by rfl, fun _ _ => ?_⟩) ?_
          rotate_left 1
          · go_simp
            try with_reducible rfl
          simp only [Act.put, List.getElem_toArray, List.getElem_cons_succ, List.getElem_cons_zero, List.setIfInBounds_toArray, List.set_cons_zero, List.set_cons_succ]
          refine anyT_take0 (i := 21) (v := ?_) rfl (by kernel_rfl) (by kernel_rfl) (by kernel_rfl) (by kernel_rfl) (by kernel_rfl) (fun _ _ _ h => h) hC (.inl ⟨by rfl, fun _ _ => ?_⟩) ?_
          rotate_left 1
          · go_simp
            try with_reducible rfl
          simp only [Act.put, List.getElem_toArray, List.getElem_cons_succ, List.getElem_cons_zero, List.setIfInBounds_toArray, List.set_cons_zero, List.set_cons_succ]
          refine anyT_take0 (i := 19) (v := ?_) rfl (by kernel_rfl) (by kernel_rfl) (by kernel_rfl) (by kernel_rfl) (by kernel_rfl) (fun _ _ _ h => h) hC (.inl ⟨by rfl, fun _ _ => ?_⟩) ?_
          rotate_left 1
          · go_simp
            try with_reducible rfl
          simp only [Act.put, List.getElem_toArray, List.getElem_cons_succ, List.getElem_cons_zero, List.setIfInBounds_toArray, List.set_cons_zero, List.set_cons_succ]
          refine anyT_takeC (i := 20) (v := ?_) rfl (by kernel_rfl) (by kernel_rfl) (by kernel_rfl) (by kernel_rfl) (by kernel_rfl) (by kernel_rfl) (fun _ _ _ h => h) hC (.inl ⟨by rfl, fun w hCw => ?_⟩) ?_
          rotate_left 1
          · dsimp only at hCw
            go_simp
            try with_reducible rfl
          simp only [Act.put, List.getElem_toArray, List.getElem_cons_succ, List.getElem_cons_zero, List.setIfInBounds_toArray, List.set_cons_zero, List.set_cons_succ]
          refine anyT_take0 (i := 22) (v := ?_) rfl (by kernel_rfl) (by kernel_rfl) (by kernel_rfl) (by kernel_rfl) (by kernel_rfl) (fun _ _ _ h => h) hC (.inl ⟨by rfl, fun _ _ => ?_⟩) ?_
          rotate_left 1
          · go_simp
            try with_reducible rfl
          simp only [Act.put, List.getElem_toArray, List.getElem_cons_succ, List.getElem_cons_zero, List.setIfInBounds_toArray, List.set_cons_zero, List.set_cons_succ]
          refine anyT_force (i := 16) rfl (by kernel_rfl) (by rfl) ?_
          go_simp
          refine (same_any _ _ (l.set k c) l _ _ _ ho9.bat (h.keeps hk8 (fun _ _ h => h))).mono ?_
          rintro e w' ⟨rfl, rfl⟩
          refine ⟨fun _ => hC, ?_⟩
          rw [e1']
          refine anyT_take0 (i := 23) (v := ?_) rfl (by kernel_rfl) (by kernel_rfl) (by kernel_rfl) (by kernel_rfl) (by kernel_rfl) (fun _ _ _ h => h) hC (.inl ⟨by rfl, fun _ _ => ?_⟩) ?_
          rotate_left 1
          · go_simp
            try with_reducible rfl
          simp only [Act.put, List.getElem_toArray, List.getElem_cons_succ, List.getElem_cons_zero, List.setIfInBounds_toArray, List.set_cons_zero, List.set_cons_succ]
          refine anyT_take0 (i := 24) (v := ?_) rfl (by kernel_rfl) (by kernel_rfl) (by kernel_rfl) (by kernel_rfl) (by kernel_rfl) (fun _ _ _ h => h) hC (.inl ⟨by rfl, fun _ _ => ?_⟩) ?_
          rotate_left 1
          · go_simp
            try with_reducible rfl
          simp only [Act.put, List.getElem_toArray, List.getElem_cons_succ, List.getElem_cons_zero, List.setIfInBounds_toArray, List.set_cons_zero, List.set_cons_succ]
          refine anyT_take0 (i := 25) (v := ?_) rfl (by kernel_rfl) (by kernel_rfl) (by kernel_rfl) (by kernel_rfl) (by kernel_rfl) (fun _ _ _ h => h) hC (.inl ⟨by rfl, fun _ _ => ?_⟩) ?_
          rotate_left 1
          · go_simp
            try with_reducible rfl
          simp only [Act.put, List.getElem_toArray, List.getElem_cons_succ, List.getElem_cons_zero, List.setIfInBounds_toArray, List.set_cons_zero, List.set_cons_succ]
          refine (show anyT _ _ _ _ _ _ 0 _ _ _ from ⟨by kernel_rfl, ?_⟩)
          go_wp2
          go_ret
          exact ⟨rfl, hk8⟩

theorem lsame_row (v : Value) (l : List UInt8) (i : Int) (c : UInt8) (w : World) (h : BAt w (· < w.heap.size) v l) (_ : (Lit.int .i64 i).wf = true) (hT : Table w) :
    Calls Tryd.prog 3 #[v, .int .i64 i, .int .u8 (c.toNat : Int)] w fun e w' => e = .returned (.bool true) ∧ Keeps (fun _ => False) w w' := lsame_any v l i c w h hT
end Go.Proofs.YtkcnllbfinjaiaaDoor
